/- The limits of the printed functions, and their equations. Written by lim.py out of the print. No condition. -/
import Derived.Test.YtcciackemicbbaaPFnApplyFeedx20
import Derived.Test.YtcciackemicbbaaLim
namespace Go.Proofs.Ytcciackemicbbaa.PFnApplyFeed
open Go.RowKit Go.Proofs.YtcciackemicbbaaW.PrintWords Go.Proofs.YtcciackemicbbaaW.PrintLast Go.Proofs.YtcciackemicbbaaW.PrintMore Go.Proofs.Ytcciackemicbbaa.Lim
set_option linter.unusedVariables false

/-! ### impl_lettersOnly -/
section
variable (a0 : ByteArray)
noncomputable def impl_lettersOnly.fL : Option (Bool) := Lim (impl_lettersOnly.f · a0)
theorem impl_lettersOnly.fL_is : LimIs (impl_lettersOnly.f · a0) (impl_lettersOnly.fL a0) := lM (fun k => impl_lettersOnly.mono a0 k)
end
theorem impl_lettersOnly.fL_eq (a0 : ByteArray) : impl_lettersOnly.fL a0 = if a0.toList = ([] : List UInt8) then (some true) else (if 0 < (a0.size : Int) then (if (bt a0 0) ≥ 97 then (if (bt a0 0) ≤ 122 then (if 1 ≤ (a0.size : Int) then ((impl_lettersOnly.fL (a0.extract 1 a0.size)).bind fun t101 => (some t101)) else (none)) else (some false)) else (some false)) else (none)) := by
  refine lU (impl_lettersOnly.fL_is a0) (LimIs.step1 (by simp only [impl_lettersOnly.f]) ?_)
  simp only [impl_lettersOnly.f]
  repeat' with_reducible first | exact lK _ | exact impl_lettersOnly.fL_is .. | apply lI | apply lB | intro _
/-! ### impl_KeyValid -/
section
variable (a0 : ByteArray)
noncomputable def impl_KeyValid.fL : Option (Bool) := Lim (impl_KeyValid.f · a0)
theorem impl_KeyValid.fL_is : LimIs (impl_KeyValid.f · a0) (impl_KeyValid.fL a0) := lM (fun k => impl_KeyValid.mono a0 k)
end
theorem impl_KeyValid.fL_eq (a0 : ByteArray) : impl_KeyValid.fL a0 = if (a0.size : Int) < 1 then (some false) else (if (a0.size : Int) > 4 then (some false) else ((impl_lettersOnly.fL a0).bind fun t102 => (some t102))) := by
  refine lU (impl_KeyValid.fL_is a0) ?_
  unfold impl_KeyValid.f
  repeat' with_reducible first | exact lK _ | exact impl_lettersOnly.fL_is .. | apply lI | apply lB | intro _
/-! ### impl_keysFrom -/
section
variable (a0 : Int)
noncomputable def impl_keysFrom.fL : Option (Int) := Lim (impl_keysFrom.f · a0)
theorem impl_keysFrom.fL_is : LimIs (impl_keysFrom.f · a0) (impl_keysFrom.fL a0) := lM (fun k => impl_keysFrom.mono a0 k)
end
theorem impl_keysFrom.fL_eq (a0 : Int) : impl_keysFrom.fL a0 = if a0 ≥ 4 then (some 1) else ((impl_keysFrom.fL (wrap64 (a0 + 1))).bind fun t103 => (some (wrap64 (1 + (wrap64 (26 * t103)))))) := by
  refine lU (impl_keysFrom.fL_is a0) (LimIs.step1 (by simp only [impl_keysFrom.f]) ?_)
  simp only [impl_keysFrom.f]
  repeat' with_reducible first | exact lK _ | exact impl_keysFrom.fL_is .. | apply lI | apply lB | intro _
/-! ### impl_rankBelow -/
section
variable (a0 : ByteArray) (a1 : Int)
noncomputable def impl_rankBelow.fL : Option (Int) := Lim (impl_rankBelow.f · a0 a1)
theorem impl_rankBelow.fL_is : LimIs (impl_rankBelow.f · a0 a1) (impl_rankBelow.fL a0 a1) := lM (fun k => impl_rankBelow.mono a0 a1 k)
end
theorem impl_rankBelow.fL_eq (a0 : ByteArray) (a1 : Int) : impl_rankBelow.fL a0 a1 = if a0.toList = ([] : List UInt8) then (some 0) else (if 0 < (a0.size : Int) then ((impl_keysFrom.fL a1).bind fun t104 => (if 1 ≤ (a0.size : Int) then ((impl_rankBelow.fL (a0.extract 1 a0.size) (wrap64 (a1 + 1))).bind fun t105 => (some (wrap64 ((wrap64 (1 + (wrap64 ((((bt a0 0) - 97) % 256) * t104)))) + t105)))) else (none))) else (none)) := by
  refine lU (impl_rankBelow.fL_is a0 a1) (LimIs.step1 (by simp only [impl_rankBelow.f]) ?_)
  simp only [impl_rankBelow.f]
  repeat' with_reducible first | exact lK _ | exact impl_keysFrom.fL_is .. | exact impl_rankBelow.fL_is .. | apply lI | apply lB | intro _
/-! ### impl_KeyRank -/
section
variable (a0 : ByteArray)
noncomputable def impl_KeyRank.fL : Option (Int) := Lim (impl_KeyRank.f · a0)
theorem impl_KeyRank.fL_is : LimIs (impl_KeyRank.f · a0) (impl_KeyRank.fL a0) := lM (fun k => impl_KeyRank.mono a0 k)
end
theorem impl_KeyRank.fL_eq (a0 : ByteArray) : impl_KeyRank.fL a0 = (impl_KeyValid.fL a0).bind fun t106 => (if t106 = true then ((impl_rankBelow.fL a0 1).bind fun t107 => (some (wrap64 (t107 - 1)))) else (some (-1))) := by
  refine lU (impl_KeyRank.fL_is a0) ?_
  unfold impl_KeyRank.f
  repeat' with_reducible first | exact lK _ | exact impl_KeyValid.fL_is .. | exact impl_rankBelow.fL_is .. | apply lI | apply lB | intro _
/-! ### laws_alive -/
section
noncomputable def laws_alive.fL : Option (Bool) := Lim (laws_alive.f ·)
theorem laws_alive.fL_is : LimIs (laws_alive.f ·) (laws_alive.fL) := lM (fun k => laws_alive.mono k)
end
theorem laws_alive.fL_eq : laws_alive.fL = (impl_KeyRank.fL (⟨#[97, 97]⟩ : ByteArray)).bind fun t108 => (if t108 = 1 then ((impl_KeyRank.fL (⟨#[]⟩ : ByteArray)).bind fun t109 => (some (t109 == (-1)))) else (some false)) := by
  refine lU (laws_alive.fL_is) ?_
  unfold laws_alive.f
  repeat' with_reducible first | exact lK _ | exact impl_KeyRank.fL_is .. | apply lI | apply lB | intro _
/-! ### spec_KeyValid -/
section
variable (a : ByteArray) (b : Int)
noncomputable def spec_KeyValid.l0L : Option (Bool) := Lim (spec_KeyValid.l0 · a b)
theorem spec_KeyValid.l0L_is : LimIs (spec_KeyValid.l0 · a b) (spec_KeyValid.l0L a b) := lM (fun k => (spec_KeyValid.mono_l k) a b)
end
section
variable (a0 : ByteArray)
noncomputable def spec_KeyValid.fL : Option (Bool) := Lim (spec_KeyValid.f · a0)
theorem spec_KeyValid.fL_is : LimIs (spec_KeyValid.f · a0) (spec_KeyValid.fL a0) := lM (fun k => spec_KeyValid.mono a0 k)
end
theorem spec_KeyValid.l0L_eq (a : ByteArray) (b : Int) : spec_KeyValid.l0L a b = if b < (a.size : Int) then (if 0 ≤ b then (if (bt a b) < 97 then (some false) else (if (bt a b) > 122 then (some false) else (spec_KeyValid.l0L a (wrap64 (b + 1))))) else (none)) else (some true) := by
  refine lU (spec_KeyValid.l0L_is a b) (LimIs.step1 (by simp only [spec_KeyValid.l0]) ?_)
  simp only [spec_KeyValid.l0]
  repeat' with_reducible first | exact lK _ | exact spec_KeyValid.l0L_is .. | apply lI | apply lB | intro _
theorem spec_KeyValid.fL_eq (a0 : ByteArray) : spec_KeyValid.fL a0 = (spec_l1In.f (a0.size : Int) 1 4).bind fun t110 => (if t110 = true then (spec_KeyValid.l0L a0 0) else (some false)) := by
  refine lU (spec_KeyValid.fL_is a0) ?_
  unfold spec_KeyValid.f
  repeat' with_reducible first | exact lK _ | exact spec_KeyValid.l0L_is .. | apply lI | apply lB | intro _
/-! ### spec_PairsValid -/
section
variable (a : List (S181)) (b : Int)
noncomputable def spec_PairsValid.l0L : Option (Bool) := Lim (spec_PairsValid.l0 · a b)
theorem spec_PairsValid.l0L_is : LimIs (spec_PairsValid.l0 · a b) (spec_PairsValid.l0L a b) := lM (fun k => (spec_PairsValid.mono_l k) a b)
end
section
variable (l0 : List (S181))
noncomputable def spec_PairsValid.fL : Option (Bool) := Lim (spec_PairsValid.f · l0)
theorem spec_PairsValid.fL_is : LimIs (spec_PairsValid.f · l0) (spec_PairsValid.fL l0) := lM (fun k => spec_PairsValid.mono l0 k)
end
theorem spec_PairsValid.l0L_eq (a : List (S181)) (b : Int) : spec_PairsValid.l0L a b = if b < (a.length : Int) then (if 0 ≤ b then ((spec_KeyValid.fL ((rd_T181 a b).f0)).bind fun t112 => (if t112 = true then ((spec_l1In.f ((rd_T181 a b).f1) 0 999).bind fun t114 => (if t114 = true then (if b > 0 then (if 0 ≤ (wrap64 (b - 1)) then (if (wrap64 (b - 1)) < (a.length : Int) then (if ((Op.bytesLess (((rd_T181 a (wrap64 (b - 1))).f0).toList) (((rd_T181 a b).f0).toList)) = true) then (spec_PairsValid.l0L a (wrap64 (b + 1))) else (some false)) else (none)) else (none)) else (spec_PairsValid.l0L a (wrap64 (b + 1)))) else (some false))) else (some false))) else (none)) else (some true) := by
  refine lU (spec_PairsValid.l0L_is a b) (LimIs.step1 (by simp only [spec_PairsValid.l0]) ?_)
  simp only [spec_PairsValid.l0]
  repeat' with_reducible first | exact lK _ | exact spec_KeyValid.fL_is .. | exact spec_PairsValid.l0L_is .. | apply lI | apply lB | intro _
theorem spec_PairsValid.fL_eq (l0 : List (S181)) : spec_PairsValid.fL l0 = if (l0.length : Int) > 48 then (some false) else (spec_PairsValid.l0L l0 0) := by
  refine lU (spec_PairsValid.fL_is l0) ?_
  unfold spec_PairsValid.f
  repeat' with_reducible first | exact lK _ | exact spec_PairsValid.l0L_is .. | apply lI | apply lB | intro _
/-! ### spec_IntervalValid -/
section
variable (a0_0 a0_1 : ByteArray)
noncomputable def spec_IntervalValid.fL : Option (Bool) := Lim (spec_IntervalValid.f · a0_0 a0_1)
theorem spec_IntervalValid.fL_is : LimIs (spec_IntervalValid.f · a0_0 a0_1) (spec_IntervalValid.fL a0_0 a0_1) := lM (fun k => spec_IntervalValid.mono a0_0 a0_1 k)
end
theorem spec_IntervalValid.fL_eq (a0_0 a0_1 : ByteArray) : spec_IntervalValid.fL a0_0 a0_1 = if a0_0.toList = ([] : List UInt8) then (if a0_1.toList = ([] : List UInt8) then (some true) else ((spec_KeyValid.fL a0_1).bind fun t118 => (if t118 = true then (if (Op.bytesLess a0_0.toList a0_1.toList) = true then (some (a0_1.toList != ([97] : List UInt8))) else (some false)) else (some false)))) else ((spec_KeyValid.fL a0_0).bind fun t119 => (if t119 = true then (if a0_1.toList = ([] : List UInt8) then (some true) else ((spec_KeyValid.fL a0_1).bind fun t120 => (if t120 = true then (if (Op.bytesLess a0_0.toList a0_1.toList) = true then (some true) else (some false)) else (some false)))) else (some false))) := by
  refine lU (spec_IntervalValid.fL_is a0_0 a0_1) ?_
  unfold spec_IntervalValid.f
  repeat' with_reducible first | exact lK _ | exact spec_KeyValid.fL_is .. | apply lI | apply lB | intro _
/-! ### spec_IntervalCut -/
section
variable (a0_0 a0_1 a1 : ByteArray)
noncomputable def spec_IntervalCut.fL : Option (ByteArray × ByteArray × ByteArray × ByteArray × Bool) := Lim (spec_IntervalCut.f · a0_0 a0_1 a1)
theorem spec_IntervalCut.fL_is : LimIs (spec_IntervalCut.f · a0_0 a0_1 a1) (spec_IntervalCut.fL a0_0 a0_1 a1) := lM (fun k => spec_IntervalCut.mono a0_0 a0_1 a1 k)
end
theorem spec_IntervalCut.fL_eq (a0_0 a0_1 a1 : ByteArray) : spec_IntervalCut.fL a0_0 a0_1 a1 = (spec_IntervalValid.fL a0_0 a0_1).bind fun t126 => (if t126 = true then ((spec_KeyValid.fL a1).bind fun t127 => (if t127 = true then ((spec_IntervalValid.fL a0_0 a1).bind fun t128 => (if t128 = true then ((spec_IntervalValid.fL a1 a0_1).bind fun t129 => (if t129 = true then (some (a0_0, a1, a1, a0_1, true)) else (some ((⟨#[]⟩ : ByteArray), (⟨#[]⟩ : ByteArray), (⟨#[]⟩ : ByteArray), (⟨#[]⟩ : ByteArray), false)))) else (some ((⟨#[]⟩ : ByteArray), (⟨#[]⟩ : ByteArray), (⟨#[]⟩ : ByteArray), (⟨#[]⟩ : ByteArray), false)))) else (some ((⟨#[]⟩ : ByteArray), (⟨#[]⟩ : ByteArray), (⟨#[]⟩ : ByteArray), (⟨#[]⟩ : ByteArray), false)))) else (some ((⟨#[]⟩ : ByteArray), (⟨#[]⟩ : ByteArray), (⟨#[]⟩ : ByteArray), (⟨#[]⟩ : ByteArray), false))) := by
  refine lU (spec_IntervalCut.fL_is a0_0 a0_1 a1) ?_
  unfold spec_IntervalCut.f
  repeat' with_reducible first | exact lK _ | exact spec_IntervalValid.fL_is .. | exact spec_KeyValid.fL_is .. | apply lI | apply lB | intro _
/-! ### spec_SessionsValid -/
section
variable (a : List (S217)) (b : Int)
noncomputable def spec_SessionsValid.l0L : Option (Bool) := Lim (spec_SessionsValid.l0 · a b)
theorem spec_SessionsValid.l0L_is : LimIs (spec_SessionsValid.l0 · a b) (spec_SessionsValid.l0L a b) := lM (fun k => (spec_SessionsValid.mono_l k) a b)
end
section
variable (l0 : List (S217))
noncomputable def spec_SessionsValid.fL : Option (Bool) := Lim (spec_SessionsValid.f · l0)
theorem spec_SessionsValid.fL_is : LimIs (spec_SessionsValid.f · l0) (spec_SessionsValid.fL l0) := lM (fun k => spec_SessionsValid.mono l0 k)
end
theorem spec_SessionsValid.l0L_eq (a : List (S217)) (b : Int) : spec_SessionsValid.l0L a b = if b < (a.length : Int) then (if 0 ≤ b then ((spec_l1In.f ((rd_T217 a b).f0) 0 3).bind fun t132 => (if t132 = true then ((spec_l1In.f ((rd_T217 a b).f1) 1 999).bind fun t133 => (if t133 = true then ((spec_l1In.f ((rd_T217 a b).f2) (-2) 999).bind fun t134 => (if t134 = true then (if b > 0 then (if 0 ≤ (wrap64 (b - 1)) then (if (wrap64 (b - 1)) < (a.length : Int) then (if ((rd_T217 a b).f0) ≤ ((rd_T217 a (wrap64 (b - 1))).f0) then (some false) else (spec_SessionsValid.l0L a (wrap64 (b + 1)))) else (none)) else (none)) else (spec_SessionsValid.l0L a (wrap64 (b + 1)))) else (some false))) else (some false))) else (some false))) else (none)) else (some true) := by
  refine lU (spec_SessionsValid.l0L_is a b) (LimIs.step1 (by simp only [spec_SessionsValid.l0]) ?_)
  simp only [spec_SessionsValid.l0]
  repeat' with_reducible first | exact lK _ | exact spec_SessionsValid.l0L_is .. | apply lI | apply lB | intro _
theorem spec_SessionsValid.fL_eq (l0 : List (S217)) : spec_SessionsValid.fL l0 = spec_SessionsValid.l0L l0 0 := by
  refine lU (spec_SessionsValid.fL_is l0) ?_
  unfold spec_SessionsValid.f
  repeat' with_reducible first | exact lK _ | exact spec_SessionsValid.l0L_is .. | apply lI | apply lB | intro _
/-! ### spec_IntervalHas -/
section
variable (a0_0 a0_1 a1 : ByteArray)
noncomputable def spec_IntervalHas.fL : Option (Bool) := Lim (spec_IntervalHas.f · a0_0 a0_1 a1)
theorem spec_IntervalHas.fL_is : LimIs (spec_IntervalHas.f · a0_0 a0_1 a1) (spec_IntervalHas.fL a0_0 a0_1 a1) := lM (fun k => spec_IntervalHas.mono a0_0 a0_1 a1 k)
end
theorem spec_IntervalHas.fL_eq (a0_0 a0_1 a1 : ByteArray) : spec_IntervalHas.fL a0_0 a0_1 a1 = (spec_IntervalValid.fL a0_0 a0_1).bind fun t137 => (if t137 = true then ((spec_KeyValid.fL a1).bind fun t138 => (if t138 = true then (if ((Op.bytesLess a1.toList a0_0.toList) = true) then (some false) else (if a0_1.toList = ([] : List UInt8) then (some true) else (some (Op.bytesLess a1.toList a0_1.toList)))) else (some false))) else (some false)) := by
  refine lU (spec_IntervalHas.fL_is a0_0 a0_1 a1) ?_
  unfold spec_IntervalHas.f
  repeat' with_reducible first | exact lK _ | exact spec_IntervalValid.fL_is .. | exact spec_KeyValid.fL_is .. | apply lI | apply lB | intro _
/-! ### spec_StateValid -/
section
variable (a : Bool) (b c : ByteArray) (d : List (S181)) (e : List (S217)) (f : Bool) (g : ByteArray)
noncomputable def spec_StateValid.j0L : Option (Bool) := Lim (spec_StateValid.j0 · a b c d e f g)
theorem spec_StateValid.j0L_is : LimIs (spec_StateValid.j0 · a b c d e f g) (spec_StateValid.j0L a b c d e f g) := lM (fun k => (spec_StateValid.mono_l k).1 a b c d e f g)
end
section
variable (a : Int) (b c : ByteArray) (d : List (S181)) (e : List (S217)) (g : Bool) (i : ByteArray)
noncomputable def spec_StateValid.l0L : Option (Bool) := Lim (spec_StateValid.l0 · a b c d e g i)
theorem spec_StateValid.l0L_is : LimIs (spec_StateValid.l0 · a b c d e g i) (spec_StateValid.l0L a b c d e g i) := lM (fun k => (spec_StateValid.mono_l k).2 a b c d e g i)
end
section
variable (a0_0 a0_1 : ByteArray) (l0_2 : List (S181)) (l0_3 : List (S217)) (a0_4 : Bool) (a0_5 : ByteArray)
noncomputable def spec_StateValid.fL : Option (Bool) := Lim (spec_StateValid.f · a0_0 a0_1 l0_2 l0_3 a0_4 a0_5)
theorem spec_StateValid.fL_is : LimIs (spec_StateValid.f · a0_0 a0_1 l0_2 l0_3 a0_4 a0_5) (spec_StateValid.fL a0_0 a0_1 l0_2 l0_3 a0_4 a0_5) := lM (fun k => spec_StateValid.mono a0_0 a0_1 l0_2 l0_3 a0_4 a0_5 k)
end
theorem spec_StateValid.j0L_eq (a : Bool) (b c : ByteArray) (d : List (S181)) (e : List (S217)) (f : Bool) (g : ByteArray) : spec_StateValid.j0L a b c d e f g = if a = true then (some false) else (spec_StateValid.l0L 0 b c d e f g) := by
  refine lU (spec_StateValid.j0L_is a b c d e f g) (LimIs.step1 (by simp only [spec_StateValid.j0]) ?_)
  simp only [spec_StateValid.j0]
  repeat' with_reducible first | exact lK _ | exact spec_StateValid.l0L_is .. | apply lI | apply lB | intro _
theorem spec_StateValid.l0L_eq (a : Int) (b c : ByteArray) (d : List (S181)) (e : List (S217)) (g : Bool) (i : ByteArray) : spec_StateValid.l0L a b c d e g i = if a < (d.length : Int) then (if 0 ≤ a then ((spec_IntervalHas.fL b c ((rd_T181 d a).f0)).bind fun t144 => (if t144 = true then (spec_StateValid.l0L (wrap64 (a + 1)) b c d e g i) else (some false))) else (none)) else ((spec_IntervalCut.fL b c i).bind fun bt145 => (if i.toList = ([] : List UInt8) then (some true) else (if g = true then (some bt145.2.2.2.2) else (some false)))) := by
  refine lU (spec_StateValid.l0L_is a b c d e g i) (LimIs.step1 (by simp only [spec_StateValid.l0]) ?_)
  simp only [spec_StateValid.l0]
  repeat' with_reducible first | exact lK _ | exact spec_IntervalCut.fL_is .. | exact spec_IntervalHas.fL_is .. | exact spec_StateValid.l0L_is .. | apply lI | apply lB | intro _
theorem spec_StateValid.fL_eq (a0_0 a0_1 : ByteArray) (l0_2 : List (S181)) (l0_3 : List (S217)) (a0_4 : Bool) (a0_5 : ByteArray) : spec_StateValid.fL a0_0 a0_1 l0_2 l0_3 a0_4 a0_5 = (spec_IntervalValid.fL a0_0 a0_1).bind fun t140 => (if t140 = true then ((spec_PairsValid.fL l0_2).bind fun t141 => (if t141 = true then ((spec_SessionsValid.fL l0_3).bind fun t142 => (spec_StateValid.j0L (!t142) a0_0 a0_1 l0_2 l0_3 a0_4 a0_5)) else (spec_StateValid.j0L true a0_0 a0_1 l0_2 l0_3 a0_4 a0_5))) else (spec_StateValid.j0L true a0_0 a0_1 l0_2 l0_3 a0_4 a0_5)) := by
  refine lU (spec_StateValid.fL_is a0_0 a0_1 l0_2 l0_3 a0_4 a0_5) ?_
  unfold spec_StateValid.f
  repeat' with_reducible first | exact lK _ | exact spec_IntervalValid.fL_is .. | exact spec_PairsValid.fL_is .. | exact spec_SessionsValid.fL_is .. | exact spec_StateValid.j0L_is .. | apply lI | apply lB | intro _
/-! ### spec_CommandValid -/
section
variable (a : Bool) (b : Int) (c : ByteArray) (d e : Int)
noncomputable def spec_CommandValid.j0L : Option (Bool) := Lim (spec_CommandValid.j0 · a b c d e)
theorem spec_CommandValid.j0L_is : LimIs (spec_CommandValid.j0 · a b c d e) (spec_CommandValid.j0L a b c d e) := lM (fun k => (spec_CommandValid.mono_l k).1 a b c d e)
end
section
variable (a : Int) (b : Bool) (c : Int) (d : ByteArray) (e g : Int)
noncomputable def spec_CommandValid.j1L : Option (Bool) := Lim (spec_CommandValid.j1 · a b c d e g)
theorem spec_CommandValid.j1L_is : LimIs (spec_CommandValid.j1 · a b c d e g) (spec_CommandValid.j1L a b c d e g) := lM (fun k => (spec_CommandValid.mono_l k).2 a b c d e g)
end
section
variable (a0_0 : Int) (a0_1 : ByteArray) (a0_2 a0_3 : Int)
noncomputable def spec_CommandValid.fL : Option (Bool) := Lim (spec_CommandValid.f · a0_0 a0_1 a0_2 a0_3)
theorem spec_CommandValid.fL_is : LimIs (spec_CommandValid.f · a0_0 a0_1 a0_2 a0_3) (spec_CommandValid.fL a0_0 a0_1 a0_2 a0_3) := lM (fun k => spec_CommandValid.mono a0_0 a0_1 a0_2 a0_3 k)
end
theorem spec_CommandValid.j0L_eq (a : Bool) (b : Int) (c : ByteArray) (d e : Int) : spec_CommandValid.j0L a b c d e = if a = true then (some false) else (if b = 1 then (spec_CommandValid.j1L b (b == 1) b c d e) else (if b = 3 then (spec_CommandValid.j1L b (b == 3) b c d e) else (spec_CommandValid.j1L b (b == 5) b c d e))) := by
  refine lU (spec_CommandValid.j0L_is a b c d e) (LimIs.step1 (by simp only [spec_CommandValid.j0]) ?_)
  simp only [spec_CommandValid.j0]
  repeat' with_reducible first | exact lK _ | exact spec_CommandValid.j1L_is .. | apply lI | apply lB | intro _
theorem spec_CommandValid.j1L_eq (a : Int) (b : Bool) (c : Int) (d : ByteArray) (e g : Int) : spec_CommandValid.j1L a b c d e g = if b = true then (if e = 0 then (some (g == 0)) else (some false)) else (if a = 2 then ((spec_l1In.f e 0 999).bind fun t154 => (if t154 = true then (some (g == 0)) else (some false))) else (if a = 4 then ((spec_l1In.f e 0 999).bind fun t155 => (if t155 = true then ((spec_l1In.f g (-1) 999).bind fun t156 => (some t156)) else (some false))) else (some false))) := by
  refine lU (spec_CommandValid.j1L_is a b c d e g) (LimIs.step1 (by simp only [spec_CommandValid.j1]) ?_)
  simp only [spec_CommandValid.j1]
  repeat' with_reducible first | exact lK _ | apply lI | apply lB | intro _
theorem spec_CommandValid.fL_eq (a0_0 : Int) (a0_1 : ByteArray) (a0_2 a0_3 : Int) : spec_CommandValid.fL a0_0 a0_1 a0_2 a0_3 = (spec_KeyValid.fL a0_1).bind fun t153 => (if t153 = true then (spec_CommandValid.j0L false a0_0 a0_1 a0_2 a0_3) else (if a0_0 = 5 then (spec_CommandValid.j0L (a0_1.toList != ([] : List UInt8)) a0_0 a0_1 a0_2 a0_3) else (spec_CommandValid.j0L true a0_0 a0_1 a0_2 a0_3))) := by
  refine lU (spec_CommandValid.fL_is a0_0 a0_1 a0_2 a0_3) ?_
  unfold spec_CommandValid.f
  repeat' with_reducible first | exact lK _ | exact spec_CommandValid.j0L_is .. | exact spec_KeyValid.fL_is .. | apply lI | apply lB | intro _
/-! ### spec_EntryValid -/
section
variable (a0_0 a0_1 a0_2 : Int) (a0_3 : ByteArray) (a0_4 a0_5 : Int)
noncomputable def spec_EntryValid.fL : Option (Bool) := Lim (spec_EntryValid.f · a0_0 a0_1 a0_2 a0_3 a0_4 a0_5)
theorem spec_EntryValid.fL_is : LimIs (spec_EntryValid.f · a0_0 a0_1 a0_2 a0_3 a0_4 a0_5) (spec_EntryValid.fL a0_0 a0_1 a0_2 a0_3 a0_4 a0_5) := lM (fun k => spec_EntryValid.mono a0_0 a0_1 a0_2 a0_3 a0_4 a0_5 k)
end
theorem spec_EntryValid.fL_eq (a0_0 a0_1 a0_2 : Int) (a0_3 : ByteArray) (a0_4 a0_5 : Int) : spec_EntryValid.fL a0_0 a0_1 a0_2 a0_3 a0_4 a0_5 = (spec_l1In.f a0_0 0 3).bind fun t158 => (if t158 = true then ((spec_l1In.f a0_1 1 999).bind fun t159 => (if t159 = true then ((spec_CommandValid.fL a0_2 a0_3 a0_4 a0_5).bind fun t160 => (some t160)) else (some false))) else (some false)) := by
  refine lU (spec_EntryValid.fL_is a0_0 a0_1 a0_2 a0_3 a0_4 a0_5) ?_
  unfold spec_EntryValid.f
  repeat' with_reducible first | exact lK _ | exact spec_CommandValid.fL_is .. | apply lI | apply lB | intro _
/-! ### spec_l10Log -/
section
variable (a : List (S118)) (b : Int)
noncomputable def spec_l10Log.l0L : Option (Bool) := Lim (spec_l10Log.l0 · a b)
theorem spec_l10Log.l0L_is : LimIs (spec_l10Log.l0 · a b) (spec_l10Log.l0L a b) := lM (fun k => (spec_l10Log.mono_l k) a b)
end
section
variable (l0 : List (S118))
noncomputable def spec_l10Log.fL : Option (Bool) := Lim (spec_l10Log.f · l0)
theorem spec_l10Log.fL_is : LimIs (spec_l10Log.f · l0) (spec_l10Log.fL l0) := lM (fun k => spec_l10Log.mono l0 k)
end
theorem spec_l10Log.l0L_eq (a : List (S118)) (b : Int) : spec_l10Log.l0L a b = if b < (a.length : Int) then (if b ≥ 24 then (some false) else (if 0 ≤ b then ((spec_EntryValid.fL ((rd_T118 a b).f0) ((rd_T118 a b).f1) ((rd_T118 a b).f2.f0) ((rd_T118 a b).f2.f1) ((rd_T118 a b).f2.f2) ((rd_T118 a b).f2.f3)).bind fun t162 => (if t162 = true then (spec_l10Log.l0L a (wrap64 (b + 1))) else (some false))) else (none))) else (some true) := by
  refine lU (spec_l10Log.l0L_is a b) (LimIs.step1 (by simp only [spec_l10Log.l0]) ?_)
  simp only [spec_l10Log.l0]
  repeat' with_reducible first | exact lK _ | exact spec_EntryValid.fL_is .. | exact spec_l10Log.l0L_is .. | apply lI | apply lB | intro _
theorem spec_l10Log.fL_eq (l0 : List (S118)) : spec_l10Log.fL l0 = spec_l10Log.l0L l0 0 := by
  refine lU (spec_l10Log.fL_is l0) ?_
  unfold spec_l10Log.f
  repeat' with_reducible first | exact lK _ | exact spec_l10Log.l0L_is .. | apply lI | apply lB | intro _
/-! ### spec_l9Find -/
section
variable (a : List (S217)) (b c : Int)
noncomputable def spec_l9Find.l0L : Option (Int × Int × Int) := Lim (spec_l9Find.l0 · a b c)
theorem spec_l9Find.l0L_is : LimIs (spec_l9Find.l0 · a b c) (spec_l9Find.l0L a b c) := lM (fun k => (spec_l9Find.mono_l k) a b c)
end
section
variable (l0 : List (S217)) (a1 : Int)
noncomputable def spec_l9Find.fL : Option (Int × Int × Int) := Lim (spec_l9Find.f · l0 a1)
theorem spec_l9Find.fL_is : LimIs (spec_l9Find.f · l0 a1) (spec_l9Find.fL l0 a1) := lM (fun k => spec_l9Find.mono l0 a1 k)
end
theorem spec_l9Find.l0L_eq (a : List (S217)) (b c : Int) : spec_l9Find.l0L a b c = if c < (a.length : Int) then (if 0 ≤ c then (if ((rd_T217 a c).f0) = b then (some ((rd_T217 a c).f0, (rd_T217 a c).f1, (rd_T217 a c).f2)) else (spec_l9Find.l0L a b (wrap64 (c + 1)))) else (none)) else (some (0, 0, 0)) := by
  refine lU (spec_l9Find.l0L_is a b c) (LimIs.step1 (by simp only [spec_l9Find.l0]) ?_)
  simp only [spec_l9Find.l0]
  repeat' with_reducible first | exact lK _ | exact spec_l9Find.l0L_is .. | apply lI | apply lB | intro _
theorem spec_l9Find.fL_eq (l0 : List (S217)) (a1 : Int) : spec_l9Find.fL l0 a1 = spec_l9Find.l0L l0 a1 0 := by
  refine lU (spec_l9Find.fL_is l0 a1) ?_
  unfold spec_l9Find.f
  repeat' with_reducible first | exact lK _ | exact spec_l9Find.l0L_is .. | apply lI | apply lB | intro _
/-! ### spec_l4Place -/
section
variable (a : List (S181)) (b : ByteArray) (c : Int)
noncomputable def spec_l4Place.l0L : Option (Int) := Lim (spec_l4Place.l0 · a b c)
theorem spec_l4Place.l0L_is : LimIs (spec_l4Place.l0 · a b c) (spec_l4Place.l0L a b c) := lM (fun k => (spec_l4Place.mono_l k) a b c)
end
section
variable (l0 : List (S181)) (a1 : ByteArray)
noncomputable def spec_l4Place.fL : Option (Int) := Lim (spec_l4Place.f · l0 a1)
theorem spec_l4Place.fL_is : LimIs (spec_l4Place.f · l0 a1) (spec_l4Place.fL l0 a1) := lM (fun k => spec_l4Place.mono l0 a1 k)
end
theorem spec_l4Place.l0L_eq (a : List (S181)) (b : ByteArray) (c : Int) : spec_l4Place.l0L a b c = if c < (a.length : Int) then (if 0 ≤ c then (if (Op.bytesLess (((rd_T181 a c).f0).toList) b.toList) = true then (spec_l4Place.l0L a b (wrap64 (c + 1))) else (some c)) else (none)) else (some c) := by
  refine lU (spec_l4Place.l0L_is a b c) (LimIs.step1 (by simp only [spec_l4Place.l0]) ?_)
  simp only [spec_l4Place.l0]
  repeat' with_reducible first | exact lK _ | exact spec_l4Place.l0L_is .. | apply lI | apply lB | intro _
theorem spec_l4Place.fL_eq (l0 : List (S181)) (a1 : ByteArray) : spec_l4Place.fL l0 a1 = spec_l4Place.l0L l0 a1 0 := by
  refine lU (spec_l4Place.fL_is l0 a1) ?_
  unfold spec_l4Place.f
  repeat' with_reducible first | exact lK _ | exact spec_l4Place.l0L_is .. | apply lI | apply lB | intro _
/-! ### spec_PairGet -/
section
variable (l0 : List (S181)) (a1 : ByteArray)
noncomputable def spec_PairGet.fL : Option (Int) := Lim (spec_PairGet.f · l0 a1)
theorem spec_PairGet.fL_is : LimIs (spec_PairGet.f · l0 a1) (spec_PairGet.fL l0 a1) := lM (fun k => spec_PairGet.mono l0 a1 k)
end
theorem spec_PairGet.fL_eq (l0 : List (S181)) (a1 : ByteArray) : spec_PairGet.fL l0 a1 = (spec_l4Place.fL l0 a1).bind fun t181 => ((spec_PairsValid.fL l0).bind fun t182 => (if t182 = true then (if t181 = (l0.length : Int) then (some (-1)) else (if 0 ≤ t181 then (if t181 < (l0.length : Int) then (if ((rd_T181 l0 t181).f0).toList = a1.toList then (some ((rd_T181 l0 t181).f1)) else (some (-1))) else (none)) else (none))) else (some (-1)))) := by
  refine lU (spec_PairGet.fL_is l0 a1) ?_
  unfold spec_PairGet.f
  repeat' with_reducible first | exact lK _ | exact spec_PairsValid.fL_is .. | exact spec_l4Place.fL_is .. | apply lI | apply lB | intro _
/-! ### spec_PairDrop -/
section
variable (l0 : List (S181)) (a1 : ByteArray)
noncomputable def spec_PairDrop.fL : Option ((List (S181)) × Bool) := Lim (spec_PairDrop.f · l0 a1)
theorem spec_PairDrop.fL_is : LimIs (spec_PairDrop.f · l0 a1) (spec_PairDrop.fL l0 a1) := lM (fun k => spec_PairDrop.mono l0 a1 k)
end
theorem spec_PairDrop.fL_eq (l0 : List (S181)) (a1 : ByteArray) : spec_PairDrop.fL l0 a1 = (some (([] : List (S181)) : List (S181))).bind fun y185 => ((spec_PairsValid.fL l0).bind fun t188 => (if t188 = true then ((spec_l4Place.fL l0 a1).bind fun t189 => (if t189 = (l0.length : Int) then (if y185.length + l0.length < 5864062014805 then (some ((y185 ++ l0), false)) else (none)) else (if 0 ≤ t189 then (if t189 < (l0.length : Int) then (if ((rd_T181 l0 t189).f0).toList = a1.toList then (if t189 ≤ (l0.length : Int) then ((some (l0.take (t189 : Int).toNat : List (S181))).bind fun y194 => (if y185.length + y194.length < 5864062014805 then ((some (y185 ++ y194 : List (S181))).bind fun y198 => (if 0 ≤ (wrap64 (t189 + 1)) then (if (wrap64 (t189 + 1)) ≤ (l0.length : Int) then ((some (l0.drop ((wrap64 (t189 + 1)) : Int).toNat : List (S181))).bind fun y201 => (if y198.length + y201.length < 5864062014805 then (some ((y198 ++ y201), true)) else (none))) else (none)) else (none))) else (none))) else (none)) else (if y185.length + l0.length < 5864062014805 then (some ((y185 ++ l0), false)) else (none))) else (none)) else (none)))) else (some (y185, false)))) := by
  refine lU (spec_PairDrop.fL_is l0 a1) ?_
  unfold spec_PairDrop.f
  repeat' with_reducible first | exact lK _ | exact spec_PairsValid.fL_is .. | exact spec_l4Place.fL_is .. | apply lI | apply lB | intro _
/-! ### spec_PairPut -/
section
variable (a : List (S181)) (b : ByteArray) (c : Int) (d : List (S181)) (e : Bool)
noncomputable def spec_PairPut.j0L : Option ((List (S181)) × Bool) := Lim (spec_PairPut.j0 · a b c d e)
theorem spec_PairPut.j0L_is : LimIs (spec_PairPut.j0 · a b c d e) (spec_PairPut.j0L a b c d e) := lM (fun k => (spec_PairPut.mono_l k).1 a b c d e)
end
section
variable (a : List (S181)) (b : ByteArray) (c : Int) (d : List (S181)) (e : Int) (f : Bool)
noncomputable def spec_PairPut.j1L : Option ((List (S181)) × Bool) := Lim (spec_PairPut.j1 · a b c d e f)
theorem spec_PairPut.j1L_is : LimIs (spec_PairPut.j1 · a b c d e f) (spec_PairPut.j1L a b c d e f) := lM (fun k => (spec_PairPut.mono_l k).2 a b c d e f)
end
section
variable (l0 : List (S181)) (a1 : ByteArray) (a2 : Int)
noncomputable def spec_PairPut.fL : Option ((List (S181)) × Bool) := Lim (spec_PairPut.f · l0 a1 a2)
theorem spec_PairPut.fL_is : LimIs (spec_PairPut.f · l0 a1 a2) (spec_PairPut.fL l0 a1 a2) := lM (fun k => spec_PairPut.mono l0 a1 a2 k)
end
theorem spec_PairPut.j0L_eq (a : List (S181)) (b : ByteArray) (c : Int) (d : List (S181)) (e : Bool) : spec_PairPut.j0L a b c d e = if e = true then (some (d, false)) else ((spec_l4Place.fL a b).bind fun t217 => (if t217 < (a.length : Int) then (if 0 ≤ t217 then (spec_PairPut.j1L a b c d t217 (((rd_T181 a t217).f0).toList == b.toList)) else (none)) else (spec_PairPut.j1L a b c d t217 false))) := by
  refine lU (spec_PairPut.j0L_is a b c d e) (LimIs.step1 (by simp only [spec_PairPut.j0]) ?_)
  simp only [spec_PairPut.j0]
  repeat' with_reducible first | exact lK _ | exact spec_PairPut.j1L_is .. | exact spec_l4Place.fL_is .. | apply lI | apply lB | intro _
theorem spec_PairPut.j1L_eq (a : List (S181)) (b : ByteArray) (c : Int) (d : List (S181)) (e : Int) (f : Bool) : spec_PairPut.j1L a b c d e f = if f = true then (if d.length + a.length < 5864062014805 then ((some (d ++ a : List (S181))).bind fun y219 => (if 0 ≤ e then (if e < (y219.length : Int) then (some ((y219.set (e : Int).toNat (⟨(rd_T181 y219 e).f0, c⟩ : S181)), true)) else (none)) else (none))) else (none)) else (if (a.length : Int) ≥ 48 then (if d.length + a.length < 5864062014805 then (some ((d ++ a), false)) else (none)) else (if 0 ≤ e then (if e ≤ (a.length : Int) then ((some (a.take (e : Int).toNat : List (S181))).bind fun y226 => (if d.length + y226.length < 5864062014805 then ((some (d ++ y226 : List (S181))).bind fun y230 => (if y230.length < 5864062014805 then ((some (y230 ++ [(⟨b, c⟩ : S181)] : List (S181))).bind fun y233 => ((some (a.drop (e : Int).toNat : List (S181))).bind fun y236 => (if y233.length + y236.length < 5864062014805 then (some ((y233 ++ y236), true)) else (none)))) else (none))) else (none))) else (none)) else (none))) := by
  refine lU (spec_PairPut.j1L_is a b c d e f) (LimIs.step1 (by simp only [spec_PairPut.j1]) ?_)
  simp only [spec_PairPut.j1]
  repeat' with_reducible first | exact lK _ | apply lI | apply lB | intro _
theorem spec_PairPut.fL_eq (l0 : List (S181)) (a1 : ByteArray) (a2 : Int) : spec_PairPut.fL l0 a1 a2 = (some (([] : List (S181)) : List (S181))).bind fun y211 => ((spec_PairsValid.fL l0).bind fun t214 => (if t214 = true then ((spec_KeyValid.fL a1).bind fun t215 => (if t215 = true then ((spec_l1In.f a2 0 999).bind fun t216 => (spec_PairPut.j0L l0 a1 a2 y211 (!t216))) else (spec_PairPut.j0L l0 a1 a2 y211 true))) else (spec_PairPut.j0L l0 a1 a2 y211 true))) := by
  refine lU (spec_PairPut.fL_is l0 a1 a2) ?_
  unfold spec_PairPut.f
  repeat' with_reducible first | exact lK _ | exact spec_KeyValid.fL_is .. | exact spec_PairPut.j0L_is .. | exact spec_PairsValid.fL_is .. | apply lI | apply lB | intro _
/-! ### spec_ApplyCommand -/
section
variable (a : List (S181)) (b : Bool) (c : Int) (d : ByteArray) (e g : Int)
noncomputable def spec_ApplyCommand.j0L : Option ((List (S181)) × Int) := Lim (spec_ApplyCommand.j0 · a b c d e g)
theorem spec_ApplyCommand.j0L_is : LimIs (spec_ApplyCommand.j0 · a b c d e g) (spec_ApplyCommand.j0L a b c d e g) := lM (fun k => (spec_ApplyCommand.mono_l k).1 a b c d e g)
end
section
variable (a b : List (S181)) (c : Int) (d : Bool) (e : Int) (g : ByteArray) (i j : Int)
noncomputable def spec_ApplyCommand.j1L : Option ((List (S181)) × Int) := Lim (spec_ApplyCommand.j1 · a b c d e g i j)
theorem spec_ApplyCommand.j1L_is : LimIs (spec_ApplyCommand.j1 · a b c d e g i j) (spec_ApplyCommand.j1L a b c d e g i j) := lM (fun k => (spec_ApplyCommand.mono_l k).2 a b c d e g i j)
end
section
variable (l0 : List (S181)) (a1_0 : Int) (a1_1 : ByteArray) (a1_2 a1_3 : Int)
noncomputable def spec_ApplyCommand.fL : Option ((List (S181)) × Int) := Lim (spec_ApplyCommand.f · l0 a1_0 a1_1 a1_2 a1_3)
theorem spec_ApplyCommand.fL_is : LimIs (spec_ApplyCommand.f · l0 a1_0 a1_1 a1_2 a1_3) (spec_ApplyCommand.fL l0 a1_0 a1_1 a1_2 a1_3) := lM (fun k => spec_ApplyCommand.mono l0 a1_0 a1_1 a1_2 a1_3 k)
end
theorem spec_ApplyCommand.j0L_eq (a : List (S181)) (b : Bool) (c : Int) (d : ByteArray) (e g : Int) : spec_ApplyCommand.j0L a b c d e g = if b = true then (some ((([] : List (S181))), (-3))) else ((some (([] : List (S181)) : List (S181))).bind fun y249 => (if y249.length + a.length < 5864062014805 then ((some (y249 ++ a : List (S181))).bind fun y252 => ((spec_PairGet.fL a d).bind fun t255 => (if c = 1 then (spec_ApplyCommand.j1L a y252 t255 true c d e g) else (if c = 4 then (spec_ApplyCommand.j1L a y252 t255 (g != t255) c d e g) else (spec_ApplyCommand.j1L a y252 t255 false c d e g))))) else (none))) := by
  refine lU (spec_ApplyCommand.j0L_is a b c d e g) (LimIs.step1 (by simp only [spec_ApplyCommand.j0]) ?_)
  simp only [spec_ApplyCommand.j0]
  repeat' with_reducible first | exact lK _ | exact spec_ApplyCommand.j1L_is .. | exact spec_PairGet.fL_is .. | apply lI | apply lB | intro _
theorem spec_ApplyCommand.j1L_eq (a b : List (S181)) (c : Int) (d : Bool) (e : Int) (g : ByteArray) (i j : Int) : spec_ApplyCommand.j1L a b c d e g i j = if d = true then (some (b, c)) else (if e = 3 then ((spec_PairDrop.fL a g).bind fun bt256 => (some (bt256.1, c))) else (if c < 0 then (if (a.length : Int) ≥ 8 then (some (b, (-2))) else ((spec_PairPut.fL a g i).bind fun bt260 => (some (bt260.1, c)))) else ((spec_PairPut.fL a g i).bind fun bt264 => (some (bt264.1, c))))) := by
  refine lU (spec_ApplyCommand.j1L_is a b c d e g i j) (LimIs.step1 (by simp only [spec_ApplyCommand.j1]) ?_)
  simp only [spec_ApplyCommand.j1]
  repeat' with_reducible first | exact lK _ | exact spec_PairDrop.fL_is .. | exact spec_PairPut.fL_is .. | apply lI | apply lB | intro _
theorem spec_ApplyCommand.fL_eq (l0 : List (S181)) (a1_0 : Int) (a1_1 : ByteArray) (a1_2 a1_3 : Int) : spec_ApplyCommand.fL l0 a1_0 a1_1 a1_2 a1_3 = (spec_PairsValid.fL l0).bind fun t244 => (if t244 = true then ((spec_CommandValid.fL a1_0 a1_1 a1_2 a1_3).bind fun t245 => (if t245 = true then (spec_ApplyCommand.j0L l0 (a1_0 == 5) a1_0 a1_1 a1_2 a1_3) else (spec_ApplyCommand.j0L l0 true a1_0 a1_1 a1_2 a1_3))) else (spec_ApplyCommand.j0L l0 true a1_0 a1_1 a1_2 a1_3)) := by
  refine lU (spec_ApplyCommand.fL_is l0 a1_0 a1_1 a1_2 a1_3) ?_
  unfold spec_ApplyCommand.f
  repeat' with_reducible first | exact lK _ | exact spec_ApplyCommand.j0L_is .. | exact spec_CommandValid.fL_is .. | exact spec_PairsValid.fL_is .. | apply lI | apply lB | intro _
/-! ### spec_SessionSeq -/
section
variable (l0 : List (S217)) (a1 : Int)
noncomputable def spec_SessionSeq.fL : Option (Int) := Lim (spec_SessionSeq.f · l0 a1)
theorem spec_SessionSeq.fL_is : LimIs (spec_SessionSeq.f · l0 a1) (spec_SessionSeq.fL l0 a1) := lM (fun k => spec_SessionSeq.mono l0 a1 k)
end
theorem spec_SessionSeq.fL_eq (l0 : List (S217)) (a1 : Int) : spec_SessionSeq.fL l0 a1 = (spec_SessionsValid.fL l0).bind fun t268 => (if t268 = true then ((spec_l1In.f a1 0 3).bind fun t269 => (if t269 = true then ((spec_l9Find.fL l0 a1).bind fun bt270 => (some bt270.2.1)) else (some (-1)))) else (some (-1))) := by
  refine lU (spec_SessionSeq.fL_is l0 a1) ?_
  unfold spec_SessionSeq.f
  repeat' with_reducible first | exact lK _ | exact spec_SessionsValid.fL_is .. | exact spec_l9Find.fL_is .. | apply lI | apply lB | intro _
/-! ### spec_SessionPut -/
section
variable (a b : List (S217)) (c : Bool) (d e g : Int)
noncomputable def spec_SessionPut.j0L : Option ((List (S217)) × Bool) := Lim (spec_SessionPut.j0 · a b c d e g)
theorem spec_SessionPut.j0L_is : LimIs (spec_SessionPut.j0 · a b c d e g) (spec_SessionPut.j0L a b c d e g) := lM (fun k => (spec_SessionPut.mono_l k).1 a b c d e g)
end
section
variable (a b : List (S217)) (c : Bool) (d e f g : Int)
noncomputable def spec_SessionPut.l0L : Option ((List (S217)) × Bool) := Lim (spec_SessionPut.l0 · a b c d e f g)
theorem spec_SessionPut.l0L_is : LimIs (spec_SessionPut.l0 · a b c d e f g) (spec_SessionPut.l0L a b c d e f g) := lM (fun k => (spec_SessionPut.mono_l k).2.1 a b c d e f g)
end
section
variable (a b : List (S217)) (c : Bool) (d : Int) (e : Bool) (f g i : Int)
noncomputable def spec_SessionPut.j2L : Option ((List (S217)) × Bool) := Lim (spec_SessionPut.j2 · a b c d e f g i)
theorem spec_SessionPut.j2L_is : LimIs (spec_SessionPut.j2 · a b c d e f g i) (spec_SessionPut.j2L a b c d e f g i) := lM (fun k => (spec_SessionPut.mono_l k).2.2 a b c d e f g i)
end
section
variable (l0 : List (S217)) (a1_0 a1_1 a1_2 : Int)
noncomputable def spec_SessionPut.fL : Option ((List (S217)) × Bool) := Lim (spec_SessionPut.f · l0 a1_0 a1_1 a1_2)
theorem spec_SessionPut.fL_is : LimIs (spec_SessionPut.f · l0 a1_0 a1_1 a1_2) (spec_SessionPut.fL l0 a1_0 a1_1 a1_2) := lM (fun k => spec_SessionPut.mono l0 a1_0 a1_1 a1_2 k)
end
theorem spec_SessionPut.j0L_eq (a b : List (S217)) (c : Bool) (d e g : Int) : spec_SessionPut.j0L a b c d e g = if c = true then (some (b, false)) else ((spec_SessionSeq.fL a d).bind fun t282 => (if t282 ≥ e then (if b.length + a.length < 5864062014805 then (some ((b ++ a), false)) else (none)) else (spec_SessionPut.l0L a b false 0 d e g))) := by
  refine lU (spec_SessionPut.j0L_is a b c d e g) (LimIs.step1 (by simp only [spec_SessionPut.j0]) ?_)
  simp only [spec_SessionPut.j0]
  repeat' with_reducible first | exact lK _ | exact spec_SessionPut.l0L_is .. | exact spec_SessionSeq.fL_is .. | apply lI | apply lB | intro _
theorem spec_SessionPut.l0L_eq (a b : List (S217)) (c : Bool) (d e f g : Int) : spec_SessionPut.l0L a b c d e f g = if d < (a.length : Int) then (if c = true then (spec_SessionPut.j2L a b c d false e f g) else (if 0 ≤ d then (spec_SessionPut.j2L a b c d (decide (((rd_T217 a d).f0) ≥ e)) e f g) else (none))) else (if c = true then (some (b, true)) else (if b.length < 5864062014805 then (some ((b ++ [(⟨e, f, g⟩ : S217)]), true)) else (none))) := by
  refine lU (spec_SessionPut.l0L_is a b c d e f g) (LimIs.step1 (by simp only [spec_SessionPut.l0]) ?_)
  simp only [spec_SessionPut.l0]
  repeat' with_reducible first | exact lK _ | exact spec_SessionPut.j2L_is .. | apply lI | apply lB | intro _
theorem spec_SessionPut.j2L_eq (a b : List (S217)) (c : Bool) (d : Int) (e : Bool) (f g i : Int) : spec_SessionPut.j2L a b c d e f g i = if e = true then (if b.length < 5864062014805 then ((some (b ++ [(⟨f, g, i⟩ : S217)] : List (S217))).bind fun y290 => (if 0 ≤ d then (if d < (a.length : Int) then (if ((rd_T217 a d).f0) = f then (spec_SessionPut.l0L a y290 true (wrap64 (d + 1)) f g i) else (if y290.length < 5864062014805 then (spec_SessionPut.l0L a (y290 ++ [(⟨(rd_T217 a d).f0, (rd_T217 a d).f1, (rd_T217 a d).f2⟩ : S217)]) true (wrap64 (d + 1)) f g i) else (none))) else (none)) else (none))) else (none)) else (if 0 ≤ d then (if d < (a.length : Int) then (if ((rd_T217 a d).f0) = f then (spec_SessionPut.l0L a b c (wrap64 (d + 1)) f g i) else (if b.length < 5864062014805 then (spec_SessionPut.l0L a (b ++ [(⟨(rd_T217 a d).f0, (rd_T217 a d).f1, (rd_T217 a d).f2⟩ : S217)]) c (wrap64 (d + 1)) f g i) else (none))) else (none)) else (none)) := by
  refine lU (spec_SessionPut.j2L_is a b c d e f g i) (LimIs.step1 (by simp only [spec_SessionPut.j2]) ?_)
  simp only [spec_SessionPut.j2]
  repeat' with_reducible first | exact lK _ | exact spec_SessionPut.l0L_is .. | apply lI | apply lB | intro _
theorem spec_SessionPut.fL_eq (l0 : List (S217)) (a1_0 a1_1 a1_2 : Int) : spec_SessionPut.fL l0 a1_0 a1_1 a1_2 = (some (([] : List (S217)) : List (S217))).bind fun y274 => ((spec_SessionsValid.fL l0).bind fun t277 => (if t277 = true then ((spec_SessionsValid.fL (([(⟨a1_0, a1_1, a1_2⟩ : S217)] : List (S217)))).bind fun t281 => (spec_SessionPut.j0L l0 y274 (!t281) a1_0 a1_1 a1_2)) else (spec_SessionPut.j0L l0 y274 true a1_0 a1_1 a1_2))) := by
  refine lU (spec_SessionPut.fL_is l0 a1_0 a1_1 a1_2) ?_
  unfold spec_SessionPut.f
  repeat' with_reducible first | exact lK _ | exact spec_SessionPut.j0L_is .. | exact spec_SessionsValid.fL_is .. | apply lI | apply lB | intro _
/-! ### spec_ApplyEntry -/
section
variable (a : Bool) (b c : ByteArray) (d : List (S181)) (e : List (S217)) (g : Bool) (i : ByteArray) (j l m : Int) (n : ByteArray) (o p : Int)
noncomputable def spec_ApplyEntry.j0L : Option (ByteArray × ByteArray × (List (S181)) × (List (S217)) × Bool × ByteArray × Int) := Lim (spec_ApplyEntry.j0 · a b c d e g i j l m n o p)
theorem spec_ApplyEntry.j0L_is : LimIs (spec_ApplyEntry.j0 · a b c d e g i j l m n o p) (spec_ApplyEntry.j0L a b c d e g i j l m n o p) := lM (fun k => (spec_ApplyEntry.mono_l k).1 a b c d e g i j l m n o p)
end
section
variable (a b : Bool) (c d : ByteArray) (e : List (S181)) (g : List (S217)) (i : Bool) (j : ByteArray) (l m n : Int) (o : ByteArray) (p q : Int) (s u : ByteArray) (v : List (S181)) (w : List (S217)) (x : Bool) (y : ByteArray)
noncomputable def spec_ApplyEntry.j1L : Option (ByteArray × ByteArray × (List (S181)) × (List (S217)) × Bool × ByteArray × Int) := Lim (spec_ApplyEntry.j1 · a b c d e g i j l m n o p q s u v w x y)
theorem spec_ApplyEntry.j1L_is : LimIs (spec_ApplyEntry.j1 · a b c d e g i j l m n o p q s u v w x y) (spec_ApplyEntry.j1L a b c d e g i j l m n o p q s u v w x y) := lM (fun k => (spec_ApplyEntry.mono_l k).2 a b c d e g i j l m n o p q s u v w x y)
end
section
variable (a0_0 a0_1 : ByteArray) (l0_2 : List (S181)) (l0_3 : List (S217)) (a0_4 : Bool) (a0_5 : ByteArray) (a1_0 a1_1 a1_2 : Int) (a1_3 : ByteArray) (a1_4 a1_5 : Int)
noncomputable def spec_ApplyEntry.fL : Option (ByteArray × ByteArray × (List (S181)) × (List (S217)) × Bool × ByteArray × Int) := Lim (spec_ApplyEntry.f · a0_0 a0_1 l0_2 l0_3 a0_4 a0_5 a1_0 a1_1 a1_2 a1_3 a1_4 a1_5)
theorem spec_ApplyEntry.fL_is : LimIs (spec_ApplyEntry.f · a0_0 a0_1 l0_2 l0_3 a0_4 a0_5 a1_0 a1_1 a1_2 a1_3 a1_4 a1_5) (spec_ApplyEntry.fL a0_0 a0_1 l0_2 l0_3 a0_4 a0_5 a1_0 a1_1 a1_2 a1_3 a1_4 a1_5) := lM (fun k => spec_ApplyEntry.mono a0_0 a0_1 l0_2 l0_3 a0_4 a0_5 a1_0 a1_1 a1_2 a1_3 a1_4 a1_5 k)
end
theorem spec_ApplyEntry.j0L_eq (a : Bool) (b c : ByteArray) (d : List (S181)) (e : List (S217)) (g : Bool) (i : ByteArray) (j l m : Int) (n : ByteArray) (o p : Int) : spec_ApplyEntry.j0L a b c d e g i j l m n o p = if a = true then (some ((⟨#[]⟩ : ByteArray), (⟨#[]⟩ : ByteArray), ([] : List (S181)), ([] : List (S217)), false, (⟨#[]⟩ : ByteArray), (-3))) else ((spec_l10Copy.f b c d e g i).bind fun bt308 => ((spec_l9Find.fL e j).bind fun bt319 => (if bt319.2.1 = l then (some (bt308.1, bt308.2.1, bt308.2.2.1, bt308.2.2.2.1, bt308.2.2.2.2.1, bt308.2.2.2.2.2, bt319.2.2)) else (if bt319.2.1 > l then (some (bt308.1, bt308.2.1, bt308.2.2.1, bt308.2.2.2.1, bt308.2.2.2.2.1, bt308.2.2.2.2.2, (-4))) else (if g = true then (some (bt308.1, bt308.2.1, bt308.2.2.1, bt308.2.2.2.1, bt308.2.2.2.2.1, bt308.2.2.2.2.2, (-3))) else ((spec_IntervalCut.fL b c n).bind fun bt323 => (if m = 5 then (if n.toList = ([] : List UInt8) then (spec_ApplyEntry.j1L (m == 5) false b c d e g i j l m n o p bt308.1 bt308.2.1 bt308.2.2.1 bt308.2.2.2.1 bt308.2.2.2.2.1 bt308.2.2.2.2.2) else (if bt323.2.2.2.2 = true then (spec_ApplyEntry.j1L (m == 5) false b c d e g i j l m n o p bt308.1 bt308.2.1 bt308.2.2.1 bt308.2.2.2.1 bt308.2.2.2.2.1 bt308.2.2.2.2.2) else (spec_ApplyEntry.j1L (m == 5) true b c d e g i j l m n o p bt308.1 bt308.2.1 bt308.2.2.1 bt308.2.2.2.1 bt308.2.2.2.2.1 bt308.2.2.2.2.2))) else ((spec_IntervalHas.fL b c n).bind fun t330 => (spec_ApplyEntry.j1L (m == 5) (!t330) b c d e g i j l m n o p bt308.1 bt308.2.1 bt308.2.2.1 bt308.2.2.2.1 bt308.2.2.2.2.1 bt308.2.2.2.2.2))))))))) := by
  refine lU (spec_ApplyEntry.j0L_is a b c d e g i j l m n o p) (LimIs.step1 (by simp only [spec_ApplyEntry.j0]) ?_)
  simp only [spec_ApplyEntry.j0]
  repeat' with_reducible first | exact lK _ | exact spec_ApplyEntry.j1L_is .. | exact spec_IntervalCut.fL_is .. | exact spec_IntervalHas.fL_is .. | exact spec_l9Find.fL_is .. | apply lI | apply lB | intro _
theorem spec_ApplyEntry.j1L_eq (a b : Bool) (c d : ByteArray) (e : List (S181)) (g : List (S217)) (i : Bool) (j : ByteArray) (l m n : Int) (o : ByteArray) (p q : Int) (s u : ByteArray) (v : List (S181)) (w : List (S217)) (x : Bool) (y : ByteArray) : spec_ApplyEntry.j1L a b c d e g i j l m n o p q s u v w x y = if b = true then (some (s, u, v, w, x, y, (-3))) else (if a = true then ((spec_SessionPut.fL w l m 0).bind fun bt331 => (some (s, u, v, bt331.1, true, o, 0))) else ((spec_ApplyCommand.fL e n o p q).bind fun bt335 => ((spec_SessionPut.fL w l m bt335.2).bind fun bt339 => (some (s, u, bt335.1, bt339.1, x, y, bt335.2))))) := by
  refine lU (spec_ApplyEntry.j1L_is a b c d e g i j l m n o p q s u v w x y) (LimIs.step1 (by simp only [spec_ApplyEntry.j1]) ?_)
  simp only [spec_ApplyEntry.j1]
  repeat' with_reducible first | exact lK _ | exact spec_ApplyCommand.fL_is .. | exact spec_SessionPut.fL_is .. | apply lI | apply lB | intro _
theorem spec_ApplyEntry.fL_eq (a0_0 a0_1 : ByteArray) (l0_2 : List (S181)) (l0_3 : List (S217)) (a0_4 : Bool) (a0_5 : ByteArray) (a1_0 a1_1 a1_2 : Int) (a1_3 : ByteArray) (a1_4 a1_5 : Int) : spec_ApplyEntry.fL a0_0 a0_1 l0_2 l0_3 a0_4 a0_5 a1_0 a1_1 a1_2 a1_3 a1_4 a1_5 = (spec_StateValid.fL a0_0 a0_1 l0_2 l0_3 a0_4 a0_5).bind fun t306 => (if t306 = true then ((spec_EntryValid.fL a1_0 a1_1 a1_2 a1_3 a1_4 a1_5).bind fun t307 => (spec_ApplyEntry.j0L (!t307) a0_0 a0_1 l0_2 l0_3 a0_4 a0_5 a1_0 a1_1 a1_2 a1_3 a1_4 a1_5)) else (spec_ApplyEntry.j0L true a0_0 a0_1 l0_2 l0_3 a0_4 a0_5 a1_0 a1_1 a1_2 a1_3 a1_4 a1_5)) := by
  refine lU (spec_ApplyEntry.fL_is a0_0 a0_1 l0_2 l0_3 a0_4 a0_5 a1_0 a1_1 a1_2 a1_3 a1_4 a1_5) ?_
  unfold spec_ApplyEntry.f
  repeat' with_reducible first | exact lK _ | exact spec_ApplyEntry.j0L_is .. | exact spec_EntryValid.fL_is .. | exact spec_StateValid.fL_is .. | apply lI | apply lB | intro _
/-! ### spec_ChangesOf -/
section
variable (a : List (S118)) (b : List (S106)) (c : Bool) (d e : ByteArray) (g : List (S181)) (i : List (S217)) (j : Bool) (l : ByteArray)
noncomputable def spec_ChangesOf.j0L : Option ((List (S106))) := Lim (spec_ChangesOf.j0 · a b c d e g i j l)
theorem spec_ChangesOf.j0L_is : LimIs (spec_ChangesOf.j0 · a b c d e g i j l) (spec_ChangesOf.j0L a b c d e g i j l) := lM (fun k => (spec_ChangesOf.mono_l k).1 a b c d e g i j l)
end
section
variable (a : List (S118)) (b : List (S106)) (c : Int) (d e : ByteArray) (g : List (S181)) (i : List (S217)) (j : Bool) (l : ByteArray)
noncomputable def spec_ChangesOf.l0L : Option ((List (S106))) := Lim (spec_ChangesOf.l0 · a b c d e g i j l)
theorem spec_ChangesOf.l0L_is : LimIs (spec_ChangesOf.l0 · a b c d e g i j l) (spec_ChangesOf.l0L a b c d e g i j l) := lM (fun k => (spec_ChangesOf.mono_l k).2 a b c d e g i j l)
end
section
variable (a0_0 a0_1 : ByteArray) (l0_2 : List (S181)) (l0_3 : List (S217)) (a0_4 : Bool) (a0_5 : ByteArray) (l1 : List (S118))
noncomputable def spec_ChangesOf.fL : Option ((List (S106))) := Lim (spec_ChangesOf.f · a0_0 a0_1 l0_2 l0_3 a0_4 a0_5 l1)
theorem spec_ChangesOf.fL_is : LimIs (spec_ChangesOf.f · a0_0 a0_1 l0_2 l0_3 a0_4 a0_5 l1) (spec_ChangesOf.fL a0_0 a0_1 l0_2 l0_3 a0_4 a0_5 l1) := lM (fun k => spec_ChangesOf.mono a0_0 a0_1 l0_2 l0_3 a0_4 a0_5 l1 k)
end
theorem spec_ChangesOf.j0L_eq (a : List (S118)) (b : List (S106)) (c : Bool) (d e : ByteArray) (g : List (S181)) (i : List (S217)) (j : Bool) (l : ByteArray) : spec_ChangesOf.j0L a b c d e g i j l = if c = true then (some b) else ((spec_l10Copy.f d e g i j l).bind fun bt349 => (spec_ChangesOf.l0L a b 0 bt349.1 bt349.2.1 bt349.2.2.1 bt349.2.2.2.1 bt349.2.2.2.2.1 bt349.2.2.2.2.2)) := by
  refine lU (spec_ChangesOf.j0L_is a b c d e g i j l) (LimIs.step1 (by simp only [spec_ChangesOf.j0]) ?_)
  simp only [spec_ChangesOf.j0]
  repeat' with_reducible first | exact lK _ | exact spec_ChangesOf.l0L_is .. | apply lI | apply lB | intro _
theorem spec_ChangesOf.l0L_eq (a : List (S118)) (b : List (S106)) (c : Int) (d e : ByteArray) (g : List (S181)) (i : List (S217)) (j : Bool) (l : ByteArray) : spec_ChangesOf.l0L a b c d e g i j l = if c < (a.length : Int) then (if 0 ≤ c then ((spec_ApplyEntry.fL d e g i j l ((rd_T118 a c).f0) ((rd_T118 a c).f1) ((rd_T118 a c).f2.f0) ((rd_T118 a c).f2.f1) ((rd_T118 a c).f2.f2) ((rd_T118 a c).f2.f3)).bind fun bt362 => ((spec_PairGet.fL g ((rd_T118 a c).f2.f1)).bind fun t374 => ((spec_PairGet.fL bt362.2.2.1 ((rd_T118 a c).f2.f1)).bind fun t375 => (if t374 = t375 then (spec_ChangesOf.l0L a b (wrap64 (c + 1)) bt362.1 bt362.2.1 bt362.2.2.1 bt362.2.2.2.1 bt362.2.2.2.2.1 bt362.2.2.2.2.2.1) else (if b.length < 3518437208883 then (spec_ChangesOf.l0L a (b ++ [(⟨c, (rd_T118 a c).f2.f1, t374, t375⟩ : S106)]) (wrap64 (c + 1)) bt362.1 bt362.2.1 bt362.2.2.1 bt362.2.2.2.1 bt362.2.2.2.2.1 bt362.2.2.2.2.2.1) else (none)))))) else (none)) else (some b) := by
  refine lU (spec_ChangesOf.l0L_is a b c d e g i j l) (LimIs.step1 (by simp only [spec_ChangesOf.l0]) ?_)
  simp only [spec_ChangesOf.l0]
  repeat' with_reducible first | exact lK _ | exact spec_ApplyEntry.fL_is .. | exact spec_ChangesOf.l0L_is .. | exact spec_PairGet.fL_is .. | apply lI | apply lB | intro _
theorem spec_ChangesOf.fL_eq (a0_0 a0_1 : ByteArray) (l0_2 : List (S181)) (l0_3 : List (S217)) (a0_4 : Bool) (a0_5 : ByteArray) (l1 : List (S118)) : spec_ChangesOf.fL a0_0 a0_1 l0_2 l0_3 a0_4 a0_5 l1 = (some (([] : List (S106)) : List (S106))).bind fun y344 => ((spec_StateValid.fL a0_0 a0_1 l0_2 l0_3 a0_4 a0_5).bind fun t347 => (if t347 = true then ((spec_l10Log.fL l1).bind fun t348 => (spec_ChangesOf.j0L l1 y344 (!t348) a0_0 a0_1 l0_2 l0_3 a0_4 a0_5)) else (spec_ChangesOf.j0L l1 y344 true a0_0 a0_1 l0_2 l0_3 a0_4 a0_5))) := by
  refine lU (spec_ChangesOf.fL_is a0_0 a0_1 l0_2 l0_3 a0_4 a0_5 l1) ?_
  unfold spec_ChangesOf.f
  repeat' with_reducible first | exact lK _ | exact spec_ChangesOf.j0L_is .. | exact spec_StateValid.fL_is .. | exact spec_l10Log.fL_is .. | apply lI | apply lB | intro _
/-! ### spec_l20Rd_pick -/
section
variable (a : Int) (b : Bool) (c : List Int) (d : Int)
noncomputable def spec_l20Rd_pick.j0L : Option (Int × Int) := Lim (spec_l20Rd_pick.j0 · a b c d)
theorem spec_l20Rd_pick.j0L_is : LimIs (spec_l20Rd_pick.j0 · a b c d) (spec_l20Rd_pick.j0L a b c d) := lM (fun k => (spec_l20Rd_pick.mono_l k) a b c d)
end
section
variable (s0_0 : List Int) (s0_1 a1 : Int)
noncomputable def spec_l20Rd_pick.fL : Option (Int × Int) := Lim (spec_l20Rd_pick.f · s0_0 s0_1 a1)
theorem spec_l20Rd_pick.fL_is : LimIs (spec_l20Rd_pick.f · s0_0 s0_1 a1) (spec_l20Rd_pick.fL s0_0 s0_1 a1) := lM (fun k => spec_l20Rd_pick.mono s0_0 s0_1 a1 k)
end
theorem spec_l20Rd_pick.j0L_eq (a : Int) (b : Bool) (c : List Int) (d : Int) : spec_l20Rd_pick.j0L a b c d = if b = true then (some (0, d)) else (if (wrap64 (d - 1)) < (c.length : Int) then (if 0 ≤ (wrap64 (d - 1)) then (if a = 0 then (none) else (some (Int.tmod (wrap64 (rd c (wrap64 (d - 1)))) a, d))) else (none)) else (if (c.length : Int) = 0 then (none) else (if 0 ≤ (Int.tmod (wrap64 (d - 1)) (c.length : Int)) then (if (Int.tmod (wrap64 (d - 1)) (c.length : Int)) < (c.length : Int) then (if 0 ≤ (Int.tmod (wrap64 ((wrap64 ((wrap64 (d - 1)) * 7)) + 3)) (c.length : Int)) then (if (Int.tmod (wrap64 ((wrap64 ((wrap64 (d - 1)) * 7)) + 3)) (c.length : Int)) < (c.length : Int) then (if a = 0 then (none) else (some (Int.tmod (Go.bits .xor .i64 (wrap64 ((wrap64 ((wrap64 ((wrap64 ((wrap64 (rd c (Int.tmod (wrap64 (d - 1)) (c.length : Int)))) * 131)) + (wrap64 ((wrap64 (rd c (Int.tmod (wrap64 ((wrap64 ((wrap64 (d - 1)) * 7)) + 3)) (c.length : Int)))) * 1117)))) + (wrap64 ((wrap64 (d - 1)) * 29)))) + (wrap64 ((wrap64 (Int.tdiv (wrap64 (d - 1)) (c.length : Int))) * 53)))) (wrap64 (Int.tdiv (wrap64 ((wrap64 ((wrap64 ((wrap64 ((wrap64 (rd c (Int.tmod (wrap64 (d - 1)) (c.length : Int)))) * 131)) + (wrap64 ((wrap64 (rd c (Int.tmod (wrap64 ((wrap64 ((wrap64 (d - 1)) * 7)) + 3)) (c.length : Int)))) * 1117)))) + (wrap64 ((wrap64 (d - 1)) * 29)))) + (wrap64 ((wrap64 (Int.tdiv (wrap64 (d - 1)) (c.length : Int))) * 53)))) 64))) a, d))) else (none)) else (none)) else (none)) else (none)))) := by
  refine lU (spec_l20Rd_pick.j0L_is a b c d) (LimIs.step1 (by simp only [spec_l20Rd_pick.j0]) ?_)
  simp only [spec_l20Rd_pick.j0]
  repeat' with_reducible first | exact lK _ | apply lI | apply lB | intro _
theorem spec_l20Rd_pick.fL_eq (s0_0 : List Int) (s0_1 a1 : Int) : spec_l20Rd_pick.fL s0_0 s0_1 a1 = if a1 < 1 then (spec_l20Rd_pick.j0L a1 true s0_0 (wrap64 (s0_1 + 1))) else (spec_l20Rd_pick.j0L a1 ((s0_0.length : Int) == 0) s0_0 (wrap64 (s0_1 + 1))) := by
  refine lU (spec_l20Rd_pick.fL_is s0_0 s0_1 a1) ?_
  unfold spec_l20Rd_pick.f
  repeat' with_reducible first | exact lK _ | exact spec_l20Rd_pick.j0L_is .. | apply lI | apply lB | intro _
/-! ### spec_l20Rd_odd -/
section
variable (s0_0 : List Int) (s0_1 a1 : Int)
noncomputable def spec_l20Rd_odd.fL : Option (Bool × Int) := Lim (spec_l20Rd_odd.f · s0_0 s0_1 a1)
theorem spec_l20Rd_odd.fL_is : LimIs (spec_l20Rd_odd.f · s0_0 s0_1 a1) (spec_l20Rd_odd.fL s0_0 s0_1 a1) := lM (fun k => spec_l20Rd_odd.mono s0_0 s0_1 a1 k)
end
theorem spec_l20Rd_odd.fL_eq (s0_0 : List Int) (s0_1 a1 : Int) : spec_l20Rd_odd.fL s0_0 s0_1 a1 = if a1 > 0 then ((spec_l20Rd_pick.fL s0_0 s0_1 a1).bind fun bt382 => (some ((bt382.1 == (wrap64 (a1 - 1))), bt382.2))) else (some (false, s0_1)) := by
  refine lU (spec_l20Rd_odd.fL_is s0_0 s0_1 a1) ?_
  unfold spec_l20Rd_odd.f
  repeat' with_reducible first | exact lK _ | exact spec_l20Rd_pick.fL_is .. | apply lI | apply lB | intro _
/-! ### spec_l20Key -/
section
variable (a : ByteArray) (b : Int) (c : List Int) (d : Int)
noncomputable def spec_l20Key.l0L : Option (ByteArray × Int) := Lim (spec_l20Key.l0 · a b c d)
theorem spec_l20Key.l0L_is : LimIs (spec_l20Key.l0 · a b c d) (spec_l20Key.l0L a b c d) := lM (fun k => (spec_l20Key.mono_l k) a b c d)
end
section
variable (s0_0 : List Int) (s0_1 a1 : Int)
noncomputable def spec_l20Key.fL : Option (ByteArray × Int) := Lim (spec_l20Key.f · s0_0 s0_1 a1)
theorem spec_l20Key.fL_is : LimIs (spec_l20Key.f · s0_0 s0_1 a1) (spec_l20Key.fL s0_0 s0_1 a1) := lM (fun k => spec_l20Key.mono s0_0 s0_1 a1 k)
end
theorem spec_l20Key.l0L_eq (a : ByteArray) (b : Int) (c : List Int) (d : Int) : spec_l20Key.l0L a b c d = if b > 0 then ((spec_l20Rd_pick.fL c d 4).bind fun bt402 => ((some (([(wrap64 (97 + bt402.1)) % 256] : List Int) : List Int)).bind fun y404 => (if a.size + (strOfNums y404).size ≤ 9223372036854775807 then (spec_l20Key.l0L (a ++ (strOfNums y404)) (wrap64 (b - 1)) c bt402.2) else (none)))) else (some (a, d)) := by
  refine lU (spec_l20Key.l0L_is a b c d) (LimIs.step1 (by simp only [spec_l20Key.l0]) ?_)
  simp only [spec_l20Key.l0]
  repeat' with_reducible first | exact lK _ | exact spec_l20Key.l0L_is .. | exact spec_l20Rd_pick.fL_is .. | apply lI | apply lB | intro _
theorem spec_l20Key.fL_eq (s0_0 : List Int) (s0_1 a1 : Int) : spec_l20Key.fL s0_0 s0_1 a1 = (spec_l20Rd_odd.fL s0_0 s0_1 a1).bind fun bt384 => (if bt384.1 = true then ((some (([(⟨#[]⟩ : ByteArray), (⟨#[65]⟩ : ByteArray), (⟨#[97, 49]⟩ : ByteArray), (⟨#[97, 98, 99, 100, 101]⟩ : ByteArray), (⟨#[98, 123]⟩ : ByteArray), (⟨#[97, 32, 98]⟩ : ByteArray)] : List ByteArray) : List ByteArray)).bind fun y386 => ((spec_l20Rd_pick.fL s0_0 bt384.2 6).bind fun bt389 => (if 0 ≤ bt389.1 then (if bt389.1 < (y386.length : Int) then (some (rdOf ByteArray.empty y386 bt389.1, bt389.2)) else (none)) else (none)))) else ((spec_l20Rd_pick.fL s0_0 bt384.2 12).bind fun bt392 => (if bt392.1 = 11 then ((some (([(⟨#[122, 122, 122, 122]⟩ : ByteArray), (⟨#[122, 122, 122]⟩ : ByteArray), (⟨#[97, 122, 122, 122]⟩ : ByteArray), (⟨#[122]⟩ : ByteArray), (⟨#[97, 97, 97, 97]⟩ : ByteArray)] : List ByteArray) : List ByteArray)).bind fun y394 => ((spec_l20Rd_pick.fL s0_0 bt392.2 5).bind fun bt397 => (if 0 ≤ bt397.1 then (if bt397.1 < (y394.length : Int) then (some (rdOf ByteArray.empty y394 bt397.1, bt397.2)) else (none)) else (none)))) else ((spec_l20Rd_pick.fL s0_0 bt392.2 2).bind fun bt400 => (spec_l20Key.l0L (⟨#[]⟩ : ByteArray) (wrap64 (1 + bt400.1)) s0_0 bt400.2))))) := by
  refine lU (spec_l20Key.fL_is s0_0 s0_1 a1) ?_
  unfold spec_l20Key.f
  repeat' with_reducible first | exact lK _ | exact spec_l20Key.l0L_is .. | exact spec_l20Rd_odd.fL_is .. | exact spec_l20Rd_pick.fL_is .. | apply lI | apply lB | intro _
/-! ### spec_l20Value -/
section
variable (s0_0 : List Int) (s0_1 a1 : Int)
noncomputable def spec_l20Value.fL : Option (Int × Int) := Lim (spec_l20Value.f · s0_0 s0_1 a1)
theorem spec_l20Value.fL_is : LimIs (spec_l20Value.f · s0_0 s0_1 a1) (spec_l20Value.fL s0_0 s0_1 a1) := lM (fun k => spec_l20Value.mono s0_0 s0_1 a1 k)
end
theorem spec_l20Value.fL_eq (s0_0 : List Int) (s0_1 a1 : Int) : spec_l20Value.fL s0_0 s0_1 a1 = (spec_l20Rd_odd.fL s0_0 s0_1 a1).bind fun bt407 => (if bt407.1 = true then ((some (([(-1), 1000] : List Int) : List Int)).bind fun y409 => ((spec_l20Rd_pick.fL s0_0 bt407.2 2).bind fun bt412 => (if 0 ≤ bt412.1 then (if bt412.1 < (y409.length : Int) then (some (rd y409 bt412.1, bt412.2)) else (none)) else (none)))) else ((spec_l20Rd_pick.fL s0_0 bt407.2 20).bind fun bt415 => ((some (([bt415.1, 999] : List Int) : List Int)).bind fun y417 => ((spec_l20Rd_pick.fL s0_0 bt415.2 9).bind fun bt420 => (if 0 ≤ (wrap64 (Int.tdiv bt420.1 8)) then (if (wrap64 (Int.tdiv bt420.1 8)) < (y417.length : Int) then (some (rd y417 (wrap64 (Int.tdiv bt420.1 8)), bt420.2)) else (none)) else (none)))))) := by
  refine lU (spec_l20Value.fL_is s0_0 s0_1 a1) ?_
  unfold spec_l20Value.f
  repeat' with_reducible first | exact lK _ | exact spec_l20Rd_odd.fL_is .. | exact spec_l20Rd_pick.fL_is .. | apply lI | apply lB | intro _
/-! ### spec_KeyAt -/
section
variable (a : Int) (b : ByteArray) (c : Int)
noncomputable def spec_KeyAt.l0L : Option (ByteArray) := Lim (spec_KeyAt.l0 · a b c)
theorem spec_KeyAt.l0L_is : LimIs (spec_KeyAt.l0 · a b c) (spec_KeyAt.l0L a b c) := lM (fun k => (spec_KeyAt.mono_l k) a b c)
end
section
variable (a0 : Int)
noncomputable def spec_KeyAt.fL : Option (ByteArray) := Lim (spec_KeyAt.f · a0)
theorem spec_KeyAt.fL_is : LimIs (spec_KeyAt.f · a0) (spec_KeyAt.fL a0) := lM (fun k => spec_KeyAt.mono a0 k)
end
theorem spec_KeyAt.l0L_eq (a : Int) (b : ByteArray) (c : Int) : spec_KeyAt.l0L a b c = if c < 4 then ((spec_l1Weight.f c).bind fun t424 => (if t424 = 0 then (none) else ((some (([(wrap64 (97 + (wrap64 (Int.tdiv a t424)))) % 256] : List Int) : List Int)).bind fun y425 => (if b.size + (strOfNums y425).size ≤ 9223372036854775807 then ((spec_l1Weight.f c).bind fun t428 => (if t428 = 0 then (none) else (if (Int.tmod a t428) = 0 then (some (b ++ (strOfNums y425))) else (spec_KeyAt.l0L (wrap64 ((Int.tmod a t428) - 1)) (b ++ (strOfNums y425)) (wrap64 (c + 1)))))) else (none))))) else (some b) := by
  refine lU (spec_KeyAt.l0L_is a b c) (LimIs.step1 (by simp only [spec_KeyAt.l0]) ?_)
  simp only [spec_KeyAt.l0]
  repeat' with_reducible first | exact lK _ | exact spec_KeyAt.l0L_is .. | apply lI | apply lB | intro _
theorem spec_KeyAt.fL_eq (a0 : Int) : spec_KeyAt.fL a0 = (spec_l1In.f a0 0 475253).bind fun t423 => (if t423 = true then (spec_KeyAt.l0L a0 (⟨#[]⟩ : ByteArray) 0) else (some (⟨#[]⟩ : ByteArray))) := by
  refine lU (spec_KeyAt.fL_is a0) ?_
  unfold spec_KeyAt.f
  repeat' with_reducible first | exact lK _ | exact spec_KeyAt.l0L_is .. | apply lI | apply lB | intro _
/-! ### spec_l20Pairs -/
section
variable (a : Int) (b : List (S181)) (c : Int) (d : List Int) (e : Int)
noncomputable def spec_l20Pairs.l0L : Option ((List (S181)) × Int) := Lim (spec_l20Pairs.l0 · a b c d e)
theorem spec_l20Pairs.l0L_is : LimIs (spec_l20Pairs.l0 · a b c d e) (spec_l20Pairs.l0L a b c d e) := lM (fun k => (spec_l20Pairs.mono_l k).1 a b c d e)
end
section
variable (a : Int) (b : List (S181)) (c : List Int) (d : Int)
noncomputable def spec_l20Pairs.j3L : Option ((List (S181)) × Int) := Lim (spec_l20Pairs.j3 · a b c d)
theorem spec_l20Pairs.j3L_is : LimIs (spec_l20Pairs.j3 · a b c d) (spec_l20Pairs.j3L a b c d) := lM (fun k => (spec_l20Pairs.mono_l k).2.1 a b c d)
end
section
variable (a : Int) (b : List (S181)) (c : Int) (d : List Int) (e : Int)
noncomputable def spec_l20Pairs.l1L : Option ((List (S181)) × Int) := Lim (spec_l20Pairs.l1 · a b c d e)
theorem spec_l20Pairs.l1L_is : LimIs (spec_l20Pairs.l1 · a b c d e) (spec_l20Pairs.l1L a b c d e) := lM (fun k => (spec_l20Pairs.mono_l k).2.2.1 a b c d e)
end
section
variable (a : Int) (b : List (S181)) (c : Int) (d : Bool) (e : List Int) (g : Int)
noncomputable def spec_l20Pairs.j2L : Option ((List (S181)) × Int) := Lim (spec_l20Pairs.j2 · a b c d e g)
theorem spec_l20Pairs.j2L_is : LimIs (spec_l20Pairs.j2 · a b c d e g) (spec_l20Pairs.j2L a b c d e g) := lM (fun k => (spec_l20Pairs.mono_l k).2.2.2 a b c d e g)
end
section
variable (s0_0 : List Int) (s0_1 a1 : Int)
noncomputable def spec_l20Pairs.fL : Option ((List (S181)) × Int) := Lim (spec_l20Pairs.f · s0_0 s0_1 a1)
theorem spec_l20Pairs.fL_is : LimIs (spec_l20Pairs.f · s0_0 s0_1 a1) (spec_l20Pairs.fL s0_0 s0_1 a1) := lM (fun k => spec_l20Pairs.mono s0_0 s0_1 a1 k)
end
theorem spec_l20Pairs.l0L_eq (a : Int) (b : List (S181)) (c : Int) (d : List Int) (e : Int) : spec_l20Pairs.l0L a b c d e = if c > 0 then ((spec_l20Key.fL d e 0).bind fun bt434 => ((spec_l20Value.fL d bt434.2 0).bind fun bt436 => ((spec_PairPut.fL b bt434.1 bt436.1).bind fun bt438 => (spec_l20Pairs.l0L a bt438.1 (wrap64 (c - 1)) d bt436.2)))) else ((spec_l20Rd_pick.fL d e 16).bind fun bt442 => (if bt442.1 = 15 then (spec_l20Pairs.l1L a b 0 d bt442.2) else (spec_l20Pairs.j3L a b d bt442.2))) := by
  refine lU (spec_l20Pairs.l0L_is a b c d e) (LimIs.step1 (by simp only [spec_l20Pairs.l0]) ?_)
  simp only [spec_l20Pairs.l0]
  repeat' with_reducible first | exact lK _ | exact spec_PairPut.fL_is .. | exact spec_l20Key.fL_is .. | exact spec_l20Pairs.j3L_is .. | exact spec_l20Pairs.l0L_is .. | exact spec_l20Pairs.l1L_is .. | exact spec_l20Rd_pick.fL_is .. | exact spec_l20Value.fL_is .. | apply lI | apply lB | intro _
theorem spec_l20Pairs.j3L_eq (a : Int) (b : List (S181)) (c : List Int) (d : Int) : spec_l20Pairs.j3L a b c d = (spec_l20Rd_odd.fL c d a).bind fun bt449 => (if bt449.1 = true then ((some (([(⟨(⟨#[]⟩ : ByteArray), 0⟩ : S181), (⟨(⟨#[122, 122, 122, 122]⟩ : ByteArray), (-1)⟩ : S181), (⟨(⟨#[122, 122, 122, 122]⟩ : ByteArray), 1000⟩ : S181), (⟨(⟨#[97]⟩ : ByteArray), 1⟩ : S181), (⟨(⟨#[65]⟩ : ByteArray), 0⟩ : S181)] : List (S181)) : List (S181))).bind fun y451 => ((spec_l20Rd_pick.fL c bt449.2 5).bind fun bt454 => (if 0 ≤ bt454.1 then (if bt454.1 < (y451.length : Int) then (if b.length < 5864062014805 then (some ((b ++ [(⟨(rd_T181 y451 bt454.1).f0, (rd_T181 y451 bt454.1).f1⟩ : S181)]), bt454.2)) else (none)) else (none)) else (none)))) else (some (b, bt449.2))) := by
  refine lU (spec_l20Pairs.j3L_is a b c d) (LimIs.step1 (by simp only [spec_l20Pairs.j3]) ?_)
  simp only [spec_l20Pairs.j3]
  repeat' with_reducible first | exact lK _ | exact spec_l20Rd_odd.fL_is .. | exact spec_l20Rd_pick.fL_is .. | apply lI | apply lB | intro _
theorem spec_l20Pairs.l1L_eq (a : Int) (b : List (S181)) (c : Int) (d : List Int) (e : Int) : spec_l20Pairs.l1L a b c d e = if (b.length : Int) < 48 then (spec_l20Pairs.j2L a b c (decide (c < 200)) d e) else (spec_l20Pairs.j2L a b c false d e) := by
  refine lU (spec_l20Pairs.l1L_is a b c d e) (LimIs.step1 (by simp only [spec_l20Pairs.l1]) ?_)
  simp only [spec_l20Pairs.l1]
  repeat' with_reducible first | exact lK _ | exact spec_l20Pairs.j2L_is .. | apply lI | apply lB | intro _
theorem spec_l20Pairs.j2L_eq (a : Int) (b : List (S181)) (c : Int) (d : Bool) (e : List Int) (g : Int) : spec_l20Pairs.j2L a b c d e g = if d = true then ((spec_KeyAt.fL (wrap64 (c * 9))).bind fun t444 => ((spec_PairPut.fL b t444 c).bind fun bt445 => (spec_l20Pairs.l1L a bt445.1 (wrap64 (c + 1)) e g))) else (spec_l20Pairs.j3L a b e g) := by
  refine lU (spec_l20Pairs.j2L_is a b c d e g) (LimIs.step1 (by simp only [spec_l20Pairs.j2]) ?_)
  simp only [spec_l20Pairs.j2]
  repeat' with_reducible first | exact lK _ | exact spec_KeyAt.fL_is .. | exact spec_PairPut.fL_is .. | exact spec_l20Pairs.j3L_is .. | exact spec_l20Pairs.l1L_is .. | apply lI | apply lB | intro _
theorem spec_l20Pairs.fL_eq (s0_0 : List Int) (s0_1 a1 : Int) : spec_l20Pairs.fL s0_0 s0_1 a1 = (spec_l20Rd_pick.fL s0_0 s0_1 9).bind fun bt432 => (spec_l20Pairs.l0L a1 (([] : List (S181))) bt432.1 s0_0 bt432.2) := by
  refine lU (spec_l20Pairs.fL_is s0_0 s0_1 a1) ?_
  unfold spec_l20Pairs.f
  repeat' with_reducible first | exact lK _ | exact spec_l20Pairs.l0L_is .. | exact spec_l20Rd_pick.fL_is .. | apply lI | apply lB | intro _
/-! ### spec_l20Session -/
section
variable (s0_0 : List Int) (s0_1 a1 : Int)
noncomputable def spec_l20Session.fL : Option (Int × Int × Int × Int) := Lim (spec_l20Session.f · s0_0 s0_1 a1)
theorem spec_l20Session.fL_is : LimIs (spec_l20Session.f · s0_0 s0_1 a1) (spec_l20Session.fL s0_0 s0_1 a1) := lM (fun k => spec_l20Session.mono s0_0 s0_1 a1 k)
end
theorem spec_l20Session.fL_eq (s0_0 : List Int) (s0_1 a1 : Int) : spec_l20Session.fL s0_0 s0_1 a1 = (spec_l20Rd_odd.fL s0_0 s0_1 a1).bind fun bt461 => (if bt461.1 = true then ((some (([(⟨(-1), 1, 0⟩ : S217), (⟨4, 1, 0⟩ : S217), (⟨1, 0, 0⟩ : S217), (⟨1, 1000, 0⟩ : S217), (⟨1, 1, (-3)⟩ : S217), (⟨1, 1, 1000⟩ : S217)] : List (S217)) : List (S217))).bind fun y463 => ((spec_l20Rd_pick.fL s0_0 bt461.2 6).bind fun bt466 => (if 0 ≤ bt466.1 then (if bt466.1 < (y463.length : Int) then (some ((rd_T217 y463 bt466.1).f0, (rd_T217 y463 bt466.1).f1, (rd_T217 y463 bt466.1).f2, bt466.2)) else (none)) else (none)))) else ((spec_l20Rd_pick.fL s0_0 bt461.2 4).bind fun bt469 => ((spec_l20Rd_pick.fL s0_0 bt469.2 6).bind fun bt471 => ((spec_l20Rd_pick.fL s0_0 bt471.2 9).bind fun bt473 => (some (bt469.1, wrap64 (1 + bt471.1), wrap64 (bt473.1 + (-2)), bt473.2)))))) := by
  refine lU (spec_l20Session.fL_is s0_0 s0_1 a1) ?_
  unfold spec_l20Session.f
  repeat' with_reducible first | exact lK _ | exact spec_l20Rd_odd.fL_is .. | exact spec_l20Rd_pick.fL_is .. | apply lI | apply lB | intro _
/-! ### spec_l20Sessions -/
section
variable (a : Int) (b : List (S217)) (c : Int) (d : List Int) (e : Int)
noncomputable def spec_l20Sessions.l0L : Option ((List (S217)) × Int) := Lim (spec_l20Sessions.l0 · a b c d e)
theorem spec_l20Sessions.l0L_is : LimIs (spec_l20Sessions.l0 · a b c d e) (spec_l20Sessions.l0L a b c d e) := lM (fun k => (spec_l20Sessions.mono_l k) a b c d e)
end
section
variable (s0_0 : List Int) (s0_1 a1 : Int)
noncomputable def spec_l20Sessions.fL : Option ((List (S217)) × Int) := Lim (spec_l20Sessions.f · s0_0 s0_1 a1)
theorem spec_l20Sessions.fL_is : LimIs (spec_l20Sessions.f · s0_0 s0_1 a1) (spec_l20Sessions.fL s0_0 s0_1 a1) := lM (fun k => spec_l20Sessions.mono s0_0 s0_1 a1 k)
end
theorem spec_l20Sessions.l0L_eq (a : Int) (b : List (S217)) (c : Int) (d : List Int) (e : Int) : spec_l20Sessions.l0L a b c d e = if c > 0 then ((spec_l20Session.fL d e 0).bind fun bt480 => ((spec_SessionPut.fL b bt480.1 bt480.2.1 bt480.2.2.1).bind fun bt484 => (spec_l20Sessions.l0L a bt484.1 (wrap64 (c - 1)) d bt480.2.2.2))) else ((spec_l20Rd_odd.fL d e a).bind fun bt488 => (if bt488.1 = true then ((spec_l20Rd_pick.fL d bt488.2 2).bind fun bt490 => (if bt490.1 = 0 then (if b.length + b.length < 5864062014805 then (some ((b ++ b), bt490.2)) else (none)) else ((spec_l20Session.fL d bt490.2 1).bind fun bt495 => (if b.length < 5864062014805 then (some ((b ++ [(⟨bt495.1, bt495.2.1, bt495.2.2.1⟩ : S217)]), bt495.2.2.2)) else (none))))) else (some (b, bt488.2)))) := by
  refine lU (spec_l20Sessions.l0L_is a b c d e) (LimIs.step1 (by simp only [spec_l20Sessions.l0]) ?_)
  simp only [spec_l20Sessions.l0]
  repeat' with_reducible first | exact lK _ | exact spec_SessionPut.fL_is .. | exact spec_l20Rd_odd.fL_is .. | exact spec_l20Rd_pick.fL_is .. | exact spec_l20Session.fL_is .. | exact spec_l20Sessions.l0L_is .. | apply lI | apply lB | intro _
theorem spec_l20Sessions.fL_eq (s0_0 : List Int) (s0_1 a1 : Int) : spec_l20Sessions.fL s0_0 s0_1 a1 = (spec_l20Rd_pick.fL s0_0 s0_1 5).bind fun bt478 => (spec_l20Sessions.l0L a1 (([] : List (S217))) bt478.1 s0_0 bt478.2) := by
  refine lU (spec_l20Sessions.fL_is s0_0 s0_1 a1) ?_
  unfold spec_l20Sessions.f
  repeat' with_reducible first | exact lK _ | exact spec_l20Rd_pick.fL_is .. | exact spec_l20Sessions.l0L_is .. | apply lI | apply lB | intro _
/-! ### spec_l20Cmd -/
section
variable (a : ByteArray) (b : List Int) (c : Int)
noncomputable def spec_l20Cmd.j0L : Option (Int × ByteArray × Int × Int × Int) := Lim (spec_l20Cmd.j0 · a b c)
theorem spec_l20Cmd.j0L_is : LimIs (spec_l20Cmd.j0 · a b c) (spec_l20Cmd.j0L a b c) := lM (fun k => (spec_l20Cmd.mono_l k) a b c)
end
section
variable (s0_0 : List Int) (s0_1 a1 : Int)
noncomputable def spec_l20Cmd.fL : Option (Int × ByteArray × Int × Int × Int) := Lim (spec_l20Cmd.f · s0_0 s0_1 a1)
theorem spec_l20Cmd.fL_is : LimIs (spec_l20Cmd.f · s0_0 s0_1 a1) (spec_l20Cmd.fL s0_0 s0_1 a1) := lM (fun k => spec_l20Cmd.mono s0_0 s0_1 a1 k)
end
theorem spec_l20Cmd.j0L_eq (a : ByteArray) (b : List Int) (c : Int) : spec_l20Cmd.j0L a b c = (spec_l20Rd_pick.fL b c 8).bind fun bt521 => (if bt521.1 = 0 then (some (1, a, 0, 0, bt521.2)) else (if bt521.1 = 1 then (some (3, a, 0, 0, bt521.2)) else (if bt521.1 = 2 then ((spec_l20Rd_pick.fL b bt521.2 5).bind fun bt523 => ((spec_l20Rd_pick.fL b bt523.2 5).bind fun bt525 => (some (4, a, bt525.1, wrap64 (bt523.1 - 1), bt525.2)))) else ((spec_l20Value.fL b bt521.2 0).bind fun bt527 => (some (2, a, Int.tmod bt527.1 1000, 0, bt527.2)))))) := by
  refine lU (spec_l20Cmd.j0L_is a b c) (LimIs.step1 (by simp only [spec_l20Cmd.j0]) ?_)
  simp only [spec_l20Cmd.j0]
  repeat' with_reducible first | exact lK _ | exact spec_l20Rd_pick.fL_is .. | exact spec_l20Value.fL_is .. | apply lI | apply lB | intro _
theorem spec_l20Cmd.fL_eq (s0_0 : List Int) (s0_1 a1 : Int) : spec_l20Cmd.fL s0_0 s0_1 a1 = (spec_l20Rd_odd.fL s0_0 s0_1 a1).bind fun bt503 => (if bt503.1 = true then ((some (([(⟨0, (⟨#[]⟩ : ByteArray), 0, 0⟩ : S30), (⟨1, (⟨#[]⟩ : ByteArray), 0, 0⟩ : S30), (⟨1, (⟨#[98]⟩ : ByteArray), 1, 0⟩ : S30), (⟨2, (⟨#[98]⟩ : ByteArray), 1000, 0⟩ : S30), (⟨2, (⟨#[98]⟩ : ByteArray), 0, 1⟩ : S30), (⟨4, (⟨#[98]⟩ : ByteArray), 0, (-2)⟩ : S30), (⟨4, (⟨#[98]⟩ : ByteArray), (-1), 0⟩ : S30), (⟨6, (⟨#[98]⟩ : ByteArray), 0, 0⟩ : S30), (⟨3, (⟨#[65]⟩ : ByteArray), 0, 0⟩ : S30), (⟨5, (⟨#[98, 49]⟩ : ByteArray), 0, 0⟩ : S30)] : List (S30)) : List (S30))).bind fun y505 => ((spec_l20Rd_pick.fL s0_0 bt503.2 10).bind fun bt508 => (if 0 ≤ bt508.1 then (if bt508.1 < (y505.length : Int) then (some ((rd_T30 y505 bt508.1).f0, (rd_T30 y505 bt508.1).f1, (rd_T30 y505 bt508.1).f2, (rd_T30 y505 bt508.1).f3, bt508.2)) else (none)) else (none)))) else ((spec_l20Key.fL s0_0 bt503.2 0).bind fun bt511 => ((spec_l20Rd_pick.fL s0_0 bt511.2 2).bind fun bt513 => (if bt513.1 = 0 then ((some (([(⟨#[98]⟩ : ByteArray), (⟨#[99]⟩ : ByteArray), (⟨#[100]⟩ : ByteArray), (⟨#[109]⟩ : ByteArray)] : List ByteArray) : List ByteArray)).bind fun y515 => ((spec_l20Rd_pick.fL s0_0 bt513.2 4).bind fun bt518 => (if 0 ≤ bt518.1 then (if bt518.1 < (y515.length : Int) then (spec_l20Cmd.j0L (rdOf ByteArray.empty y515 bt518.1) s0_0 bt518.2) else (none)) else (none)))) else (spec_l20Cmd.j0L bt511.1 s0_0 bt513.2))))) := by
  refine lU (spec_l20Cmd.fL_is s0_0 s0_1 a1) ?_
  unfold spec_l20Cmd.f
  repeat' with_reducible first | exact lK _ | exact spec_l20Cmd.j0L_is .. | exact spec_l20Key.fL_is .. | exact spec_l20Rd_odd.fL_is .. | exact spec_l20Rd_pick.fL_is .. | apply lI | apply lB | intro _
/-! ### spec_l20Any -/
section
variable (s0_0 : List Int) (s0_1 a1 : Int)
noncomputable def spec_l20Any.fL : Option (Int × ByteArray × Int × Int × Int) := Lim (spec_l20Any.f · s0_0 s0_1 a1)
theorem spec_l20Any.fL_is : LimIs (spec_l20Any.f · s0_0 s0_1 a1) (spec_l20Any.fL s0_0 s0_1 a1) := lM (fun k => spec_l20Any.mono s0_0 s0_1 a1 k)
end
theorem spec_l20Any.fL_eq (s0_0 : List Int) (s0_1 a1 : Int) : spec_l20Any.fL s0_0 s0_1 a1 = (spec_l20Cmd.fL s0_0 s0_1 a1).bind fun bt530 => ((spec_l20Rd_pick.fL s0_0 bt530.2.2.2.2 5).bind fun bt536 => (if bt536.1 = 0 then ((spec_l20Key.fL s0_0 bt536.2 0).bind fun bt538 => ((some (([(⟨#[]⟩ : ByteArray), (⟨#[98]⟩ : ByteArray), (⟨#[99]⟩ : ByteArray), bt538.1] : List ByteArray) : List ByteArray)).bind fun y540 => ((spec_l20Rd_pick.fL s0_0 bt538.2 4).bind fun bt543 => (if 0 ≤ bt543.1 then (if bt543.1 < (y540.length : Int) then (some (5, rdOf ByteArray.empty y540 bt543.1, 0, 0, bt543.2)) else (none)) else (none))))) else (some (bt530.1, bt530.2.1, bt530.2.2.1, bt530.2.2.2.1, bt536.2)))) := by
  refine lU (spec_l20Any.fL_is s0_0 s0_1 a1) ?_
  unfold spec_l20Any.f
  repeat' with_reducible first | exact lK _ | exact spec_l20Cmd.fL_is .. | exact spec_l20Key.fL_is .. | exact spec_l20Rd_pick.fL_is .. | apply lI | apply lB | intro _
/-! ### spec_l20Entry -/
section
variable (s0_0 : List Int) (s0_1 a1 : Int)
noncomputable def spec_l20Entry.fL : Option (Int × Int × Int × ByteArray × Int × Int × Int) := Lim (spec_l20Entry.f · s0_0 s0_1 a1)
theorem spec_l20Entry.fL_is : LimIs (spec_l20Entry.f · s0_0 s0_1 a1) (spec_l20Entry.fL s0_0 s0_1 a1) := lM (fun k => spec_l20Entry.mono s0_0 s0_1 a1 k)
end
theorem spec_l20Entry.fL_eq (s0_0 : List Int) (s0_1 a1 : Int) : spec_l20Entry.fL s0_0 s0_1 a1 = (spec_l20Rd_pick.fL s0_0 s0_1 4).bind fun bt547 => ((spec_l20Rd_pick.fL s0_0 bt547.2 6).bind fun bt549 => ((spec_l20Any.fL s0_0 bt549.2 0).bind fun bt551 => ((spec_l20Rd_odd.fL s0_0 bt551.2.2.2.2 a1).bind fun bt557 => (if bt557.1 = true then ((some (([(⟨0, 0, (⟨0, (⟨#[]⟩ : ByteArray), 0, 0⟩ : S30)⟩ : S118), (⟨4, 1, (⟨bt551.1, bt551.2.1, bt551.2.2.1, bt551.2.2.2.1⟩ : S30)⟩ : S118), (⟨(-1), 1, (⟨bt551.1, bt551.2.1, bt551.2.2.1, bt551.2.2.2.1⟩ : S30)⟩ : S118), (⟨1, 0, (⟨bt551.1, bt551.2.1, bt551.2.2.1, bt551.2.2.2.1⟩ : S30)⟩ : S118), (⟨1, 1000, (⟨bt551.1, bt551.2.1, bt551.2.2.1, bt551.2.2.2.1⟩ : S30)⟩ : S118), (⟨1, 1, (⟨0, (⟨#[]⟩ : ByteArray), 0, 0⟩ : S30)⟩ : S118)] : List (S118)) : List (S118))).bind fun y559 => ((spec_l20Rd_pick.fL s0_0 bt557.2 6).bind fun bt562 => (if 0 ≤ bt562.1 then (if bt562.1 < (y559.length : Int) then (some ((rd_T118 y559 bt562.1).f0, (rd_T118 y559 bt562.1).f1, (rd_T118 y559 bt562.1).f2.f0, (rd_T118 y559 bt562.1).f2.f1, (rd_T118 y559 bt562.1).f2.f2, (rd_T118 y559 bt562.1).f2.f3, bt562.2)) else (none)) else (none)))) else (some (bt547.1, wrap64 (1 + bt549.1), bt551.1, bt551.2.1, bt551.2.2.1, bt551.2.2.2.1, bt557.2)))))) := by
  refine lU (spec_l20Entry.fL_is s0_0 s0_1 a1) ?_
  unfold spec_l20Entry.f
  repeat' with_reducible first | exact lK _ | exact spec_l20Any.fL_is .. | exact spec_l20Rd_odd.fL_is .. | exact spec_l20Rd_pick.fL_is .. | apply lI | apply lB | intro _
/-! ### spec_l20Log -/
section
variable (a : Int) (b : List (S118)) (c : Int) (d : List Int) (e : Int)
noncomputable def spec_l20Log.l0L : Option ((List (S118)) × Int) := Lim (spec_l20Log.l0 · a b c d e)
theorem spec_l20Log.l0L_is : LimIs (spec_l20Log.l0 · a b c d e) (spec_l20Log.l0L a b c d e) := lM (fun k => (spec_l20Log.mono_l k).1 a b c d e)
end
section
variable (a : Int) (b : List (S118)) (c : Int) (d : Bool) (e : List Int) (g i j l : Int) (m : ByteArray) (n o : Int)
noncomputable def spec_l20Log.j1L : Option ((List (S118)) × Int) := Lim (spec_l20Log.j1 · a b c d e g i j l m n o)
theorem spec_l20Log.j1L_is : LimIs (spec_l20Log.j1 · a b c d e g i j l m n o) (spec_l20Log.j1L a b c d e g i j l m n o) := lM (fun k => (spec_l20Log.mono_l k).2.1 a b c d e g i j l m n o)
end
section
variable (a : Int) (b : List (S118)) (c : Int) (d : List Int) (e g i j : Int) (l : ByteArray) (m n : Int)
noncomputable def spec_l20Log.j2L : Option ((List (S118)) × Int) := Lim (spec_l20Log.j2 · a b c d e g i j l m n)
theorem spec_l20Log.j2L_is : LimIs (spec_l20Log.j2 · a b c d e g i j l m n) (spec_l20Log.j2L a b c d e g i j l m n) := lM (fun k => (spec_l20Log.mono_l k).2.2.1 a b c d e g i j l m n)
end
section
variable (a : List (S118)) (b : List Int) (c : Int)
noncomputable def spec_l20Log.l1L : Option ((List (S118)) × Int) := Lim (spec_l20Log.l1 · a b c)
theorem spec_l20Log.l1L_is : LimIs (spec_l20Log.l1 · a b c) (spec_l20Log.l1L a b c) := lM (fun k => (spec_l20Log.mono_l k).2.2.2 a b c)
end
section
variable (s0_0 : List Int) (s0_1 a1 : Int)
noncomputable def spec_l20Log.fL : Option ((List (S118)) × Int) := Lim (spec_l20Log.f · s0_0 s0_1 a1)
theorem spec_l20Log.fL_is : LimIs (spec_l20Log.f · s0_0 s0_1 a1) (spec_l20Log.fL s0_0 s0_1 a1) := lM (fun k => spec_l20Log.mono s0_0 s0_1 a1 k)
end
theorem spec_l20Log.l0L_eq (a : Int) (b : List (S118)) (c : Int) (d : List Int) (e : Int) : spec_l20Log.l0L a b c d e = if c > 0 then ((spec_l20Entry.fL d e 0).bind fun bt570 => (if bt570.2.2.1 = 5 then ((spec_l20Rd_pick.fL d bt570.2.2.2.2.2.2 3).bind fun bt578 => (spec_l20Log.j1L a b c (decide (bt578.1 > 0)) d bt578.2 bt570.1 bt570.2.1 bt570.2.2.1 bt570.2.2.2.1 bt570.2.2.2.2.1 bt570.2.2.2.2.2.1)) else (spec_l20Log.j1L a b c false d bt570.2.2.2.2.2.2 bt570.1 bt570.2.1 bt570.2.2.1 bt570.2.2.2.1 bt570.2.2.2.2.1 bt570.2.2.2.2.2.1))) else ((spec_l20Rd_odd.fL d e a).bind fun bt601 => (if bt601.1 = true then ((spec_l20Rd_pick.fL d bt601.2 2).bind fun bt603 => (if bt603.1 = 0 then ((spec_l20Entry.fL d bt603.2 1).bind fun bt605 => (if b.length < 2513169434916 then (some ((b ++ [(⟨bt605.1, bt605.2.1, (⟨bt605.2.2.1, bt605.2.2.2.1, bt605.2.2.2.2.1, bt605.2.2.2.2.2.1⟩ : S30)⟩ : S118)]), bt605.2.2.2.2.2.2)) else (none))) else (spec_l20Log.l1L b d bt603.2))) else (some (b, bt601.2)))) := by
  refine lU (spec_l20Log.l0L_is a b c d e) (LimIs.step1 (by simp only [spec_l20Log.l0]) ?_)
  simp only [spec_l20Log.l0]
  repeat' with_reducible first | exact lK _ | exact spec_l20Entry.fL_is .. | exact spec_l20Log.j1L_is .. | exact spec_l20Log.l1L_is .. | exact spec_l20Rd_odd.fL_is .. | exact spec_l20Rd_pick.fL_is .. | apply lI | apply lB | intro _
theorem spec_l20Log.j1L_eq (a : Int) (b : List (S118)) (c : Int) (d : Bool) (e : List Int) (g i j l : Int) (m : ByteArray) (n o : Int) : spec_l20Log.j1L a b c d e g i j l m n o = if d = true then ((spec_l20Cmd.fL e g 0).bind fun bt580 => (spec_l20Log.j2L a b c e bt580.2.2.2.2 i j bt580.1 bt580.2.1 bt580.2.2.1 bt580.2.2.2.1)) else (spec_l20Log.j2L a b c e g i j l m n o) := by
  refine lU (spec_l20Log.j1L_is a b c d e g i j l m n o) (LimIs.step1 (by simp only [spec_l20Log.j1]) ?_)
  simp only [spec_l20Log.j1]
  repeat' with_reducible first | exact lK _ | exact spec_l20Cmd.fL_is .. | exact spec_l20Log.j2L_is .. | apply lI | apply lB | intro _
theorem spec_l20Log.j2L_eq (a : Int) (b : List (S118)) (c : Int) (d : List Int) (e g i j : Int) (l : ByteArray) (m n : Int) : spec_l20Log.j2L a b c d e g i j l m n = (spec_l20Rd_pick.fL d e 8).bind fun bt585 => (if (b.length : Int) > 0 then ((spec_l20Rd_pick.fL d bt585.2 6).bind fun bt587 => (if bt587.1 = 0 then ((spec_l20Rd_pick.fL d bt587.2 (b.length : Int)).bind fun bt589 => (if 0 ≤ bt589.1 then (if bt589.1 < (b.length : Int) then (if b.length < 2513169434916 then (spec_l20Log.l0L a (b ++ [(⟨(rd_T118 b bt589.1).f0, (rd_T118 b bt589.1).f1, (⟨(rd_T118 b bt589.1).f2.f0, (rd_T118 b bt589.1).f2.f1, (rd_T118 b bt589.1).f2.f2, (rd_T118 b bt589.1).f2.f3⟩ : S30)⟩ : S118)]) (wrap64 (c - 1)) d bt589.2) else (none)) else (none)) else (none))) else (if b.length < 2513169434916 then (spec_l20Log.l0L a (b ++ [(⟨g, wrap64 (1 + bt585.1), (⟨j, l, m, n⟩ : S30)⟩ : S118)]) (wrap64 (c - 1)) d bt587.2) else (none)))) else (if b.length < 2513169434916 then (spec_l20Log.l0L a (b ++ [(⟨g, wrap64 (1 + bt585.1), (⟨j, l, m, n⟩ : S30)⟩ : S118)]) (wrap64 (c - 1)) d bt585.2) else (none))) := by
  refine lU (spec_l20Log.j2L_is a b c d e g i j l m n) (LimIs.step1 (by simp only [spec_l20Log.j2]) ?_)
  simp only [spec_l20Log.j2]
  repeat' with_reducible first | exact lK _ | exact spec_l20Log.l0L_is .. | exact spec_l20Rd_pick.fL_is .. | apply lI | apply lB | intro _
theorem spec_l20Log.l1L_eq (a : List (S118)) (b : List Int) (c : Int) : spec_l20Log.l1L a b c = if (a.length : Int) ≤ 24 then ((spec_l20Entry.fL b c 0).bind fun bt615 => (if a.length < 2513169434916 then (spec_l20Log.l1L (a ++ [(⟨bt615.1, bt615.2.1, (⟨bt615.2.2.1, bt615.2.2.2.1, bt615.2.2.2.2.1, bt615.2.2.2.2.2.1⟩ : S30)⟩ : S118)]) b bt615.2.2.2.2.2.2) else (none))) else (some (a, c)) := by
  refine lU (spec_l20Log.l1L_is a b c) (LimIs.step1 (by simp only [spec_l20Log.l1]) ?_)
  simp only [spec_l20Log.l1]
  repeat' with_reducible first | exact lK _ | exact spec_l20Entry.fL_is .. | exact spec_l20Log.l1L_is .. | apply lI | apply lB | intro _
theorem spec_l20Log.fL_eq (s0_0 : List Int) (s0_1 a1 : Int) : spec_l20Log.fL s0_0 s0_1 a1 = (spec_l20Rd_pick.fL s0_0 s0_1 9).bind fun bt568 => (spec_l20Log.l0L a1 (([] : List (S118))) bt568.1 s0_0 bt568.2) := by
  refine lU (spec_l20Log.fL_is s0_0 s0_1 a1) ?_
  unfold spec_l20Log.f
  repeat' with_reducible first | exact lK _ | exact spec_l20Log.l0L_is .. | exact spec_l20Rd_pick.fL_is .. | apply lI | apply lB | intro _
/-! ### spec_l20Feed -/
section
variable (s0_0 : List Int) (s0_1 a1 : Int)
noncomputable def spec_l20Feed.fL : Option ((List (S181)) × (List (S106)) × Int) := Lim (spec_l20Feed.f · s0_0 s0_1 a1)
theorem spec_l20Feed.fL_is : LimIs (spec_l20Feed.f · s0_0 s0_1 a1) (spec_l20Feed.fL s0_0 s0_1 a1) := lM (fun k => spec_l20Feed.mono s0_0 s0_1 a1 k)
end
theorem spec_l20Feed.fL_eq (s0_0 : List Int) (s0_1 a1 : Int) : spec_l20Feed.fL s0_0 s0_1 a1 = (spec_l20Pairs.fL s0_0 s0_1 0).bind fun bt625 => ((spec_l20Sessions.fL s0_0 bt625.2 0).bind fun bt629 => ((spec_l20Log.fL s0_0 bt629.2 0).bind fun bt634 => ((spec_ChangesOf.fL (⟨#[]⟩ : ByteArray) (⟨#[]⟩ : ByteArray) bt625.1 bt629.1 false (⟨#[]⟩ : ByteArray) bt634.1).bind fun t638 => ((spec_l20Rd_odd.fL s0_0 bt634.2 a1).bind fun bt641 => (if bt641.1 = true then ((spec_l20Rd_pick.fL s0_0 bt641.2 4).bind fun bt643 => (if bt643.1 = 0 then ((some (([(⟨0, (⟨#[]⟩ : ByteArray), 0, 0⟩ : S106), (⟨24, (⟨#[98]⟩ : ByteArray), 0, 1⟩ : S106), (⟨23, (⟨#[98]⟩ : ByteArray), (-2), 0⟩ : S106), (⟨23, (⟨#[98]⟩ : ByteArray), 0, 1000⟩ : S106), (⟨23, (⟨#[66]⟩ : ByteArray), 0, 1⟩ : S106)] : List (S106)) : List (S106))).bind fun y645 => ((spec_l20Rd_pick.fL s0_0 bt643.2 5).bind fun bt648 => (if 0 ≤ bt648.1 then (if bt648.1 < (y645.length : Int) then (if t638.length < 3518437208883 then (some (bt625.1, (t638 ++ [(⟨(rd_T106 y645 bt648.1).f0, (rd_T106 y645 bt648.1).f1, (rd_T106 y645 bt648.1).f2, (rd_T106 y645 bt648.1).f3⟩ : S106)]), bt648.2)) else (none)) else (none)) else (none)))) else (if bt643.1 = 1 then (if t638.length + t638.length < 3518437208883 then (some (bt625.1, (t638 ++ t638), bt643.2)) else (none)) else (if bt643.1 = 2 then ((spec_l20Pairs.fL s0_0 bt643.2 2).bind fun bt657 => (some (bt657.1, t638, bt657.2))) else (if t638.length < 3518437208883 then (some (bt625.1, (t638 ++ [(⟨23, (⟨#[98]⟩ : ByteArray), 5, 6⟩ : S106)]), bt643.2)) else (none)))))) else (some (bt625.1, t638, bt641.2))))))) := by
  refine lU (spec_l20Feed.fL_is s0_0 s0_1 a1) ?_
  unfold spec_l20Feed.f
  repeat' with_reducible first | exact lK _ | exact spec_ChangesOf.fL_is .. | exact spec_l20Log.fL_is .. | exact spec_l20Pairs.fL_is .. | exact spec_l20Rd_odd.fL_is .. | exact spec_l20Rd_pick.fL_is .. | exact spec_l20Sessions.fL_is .. | apply lI | apply lB | intro _
/-! ### spec_DrawApplyFeed -/
section
variable (l0 : List Int)
noncomputable def spec_DrawApplyFeed.fL : Option ((List (S181)) × (List (S106))) := Lim (spec_DrawApplyFeed.f · l0)
theorem spec_DrawApplyFeed.fL_is : LimIs (spec_DrawApplyFeed.f · l0) (spec_DrawApplyFeed.fL l0) := lM (fun k => spec_DrawApplyFeed.mono l0 k)
end
theorem spec_DrawApplyFeed.fL_eq (l0 : List Int) : spec_DrawApplyFeed.fL l0 = (spec_l20Open.f l0).bind fun bt670 => ((spec_l20Feed.fL bt670.1 bt670.2 5).bind fun bt673 => (some (bt673.1, bt673.2.1))) := by
  refine lU (spec_DrawApplyFeed.fL_is l0) ?_
  unfold spec_DrawApplyFeed.f
  repeat' with_reducible first | exact lK _ | exact spec_l20Feed.fL_is .. | apply lI | apply lB | intro _
/-! ### impl_FeedValid -/
section
variable (a b : List (S106)) (c d : Int)
noncomputable def impl_FeedValid.l0L : Option (Bool) := Lim (impl_FeedValid.l0 · a b c d)
theorem impl_FeedValid.l0L_is : LimIs (impl_FeedValid.l0 · a b c d) (impl_FeedValid.l0L a b c d) := lM (fun k => (impl_FeedValid.mono_l k).1 a b c d)
end
section
variable (a : List (S106)) (b : Int) (c : List (S106)) (d e : Int) (g : Bool) (i : Int) (j : ByteArray) (l m : Int)
noncomputable def impl_FeedValid.j1L : Option (Bool) := Lim (impl_FeedValid.j1 · a b c d e g i j l m)
theorem impl_FeedValid.j1L_is : LimIs (impl_FeedValid.j1 · a b c d e g i j l m) (impl_FeedValid.j1L a b c d e g i j l m) := lM (fun k => (impl_FeedValid.mono_l k).2.1 a b c d e g i j l m)
end
section
variable (a : List (S106)) (b : Int) (c : List (S106)) (d e : Int) (f : Bool) (g : Int) (i : ByteArray) (j l : Int)
noncomputable def impl_FeedValid.j2L : Option (Bool) := Lim (impl_FeedValid.j2 · a b c d e f g i j l)
theorem impl_FeedValid.j2L_is : LimIs (impl_FeedValid.j2 · a b c d e f g i j l) (impl_FeedValid.j2L a b c d e f g i j l) := lM (fun k => (impl_FeedValid.mono_l k).2.2 a b c d e f g i j l)
end
section
variable (l0 : List (S106))
noncomputable def impl_FeedValid.fL : Option (Bool) := Lim (impl_FeedValid.f · l0)
theorem impl_FeedValid.fL_is : LimIs (impl_FeedValid.f · l0) (impl_FeedValid.fL l0) := lM (fun k => impl_FeedValid.mono l0 k)
end
theorem impl_FeedValid.l0L_eq (a b : List (S106)) (c d : Int) : impl_FeedValid.l0L a b c d = if d < c then (if 0 ≤ d then (if d < (b.length : Int) then (if ((rd_T106 b d).f0) < 0 then (impl_FeedValid.j1L a d b c d true ((rd_T106 b d).f0) ((rd_T106 b d).f1) ((rd_T106 b d).f2) ((rd_T106 b d).f3)) else (if ((rd_T106 b d).f0) ≥ 24 then (impl_FeedValid.j1L a d b c d true ((rd_T106 b d).f0) ((rd_T106 b d).f1) ((rd_T106 b d).f2) ((rd_T106 b d).f3)) else ((impl_KeyValid.fL ((rd_T106 b d).f1)).bind fun t682 => (if t682 = true then (impl_FeedValid.j1L a d b c d (((rd_T106 b d).f2) == ((rd_T106 b d).f3)) ((rd_T106 b d).f0) ((rd_T106 b d).f1) ((rd_T106 b d).f2) ((rd_T106 b d).f3)) else (impl_FeedValid.j1L a d b c d true ((rd_T106 b d).f0) ((rd_T106 b d).f1) ((rd_T106 b d).f2) ((rd_T106 b d).f3)))))) else (none)) else (none)) else (some true) := by
  refine lU (impl_FeedValid.l0L_is a b c d) (LimIs.step1 (by simp only [impl_FeedValid.l0]) ?_)
  simp only [impl_FeedValid.l0]
  repeat' with_reducible first | exact lK _ | exact impl_FeedValid.j1L_is .. | exact impl_KeyValid.fL_is .. | apply lI | apply lB | intro _
theorem impl_FeedValid.j1L_eq (a : List (S106)) (b : Int) (c : List (S106)) (d e : Int) (g : Bool) (i : Int) (j : ByteArray) (l m : Int) : impl_FeedValid.j1L a b c d e g i j l m = if g = true then (some false) else (if l = (-1) then (if m = (-1) then (impl_FeedValid.j2L a b c d e false i j l m) else ((impl_valueValid.f m).bind fun t683 => (impl_FeedValid.j2L a b c d e (!t683) i j l m))) else ((impl_valueValid.f l).bind fun t684 => (if t684 = true then (if m = (-1) then (impl_FeedValid.j2L a b c d e false i j l m) else ((impl_valueValid.f m).bind fun t685 => (impl_FeedValid.j2L a b c d e (!t685) i j l m))) else (impl_FeedValid.j2L a b c d e true i j l m)))) := by
  refine lU (impl_FeedValid.j1L_is a b c d e g i j l m) (LimIs.step1 (by simp only [impl_FeedValid.j1]) ?_)
  simp only [impl_FeedValid.j1]
  repeat' with_reducible first | exact lK _ | exact impl_FeedValid.j2L_is .. | apply lI | apply lB | intro _
theorem impl_FeedValid.j2L_eq (a : List (S106)) (b : Int) (c : List (S106)) (d e : Int) (f : Bool) (g : Int) (i : ByteArray) (j l : Int) : impl_FeedValid.j2L a b c d e f g i j l = if f = true then (some false) else (if b > 0 then (if 0 ≤ (wrap64 (b - 1)) then (if (wrap64 (b - 1)) < (a.length : Int) then (if ((rd_T106 a (wrap64 (b - 1))).f0) ≥ g then (some false) else (impl_FeedValid.l0L a c d (wrap64 (e + 1)))) else (none)) else (none)) else (impl_FeedValid.l0L a c d (wrap64 (e + 1)))) := by
  refine lU (impl_FeedValid.j2L_is a b c d e f g i j l) (LimIs.step1 (by simp only [impl_FeedValid.j2]) ?_)
  simp only [impl_FeedValid.j2]
  repeat' with_reducible first | exact lK _ | exact impl_FeedValid.l0L_is .. | apply lI | apply lB | intro _
theorem impl_FeedValid.fL_eq (l0 : List (S106)) : impl_FeedValid.fL l0 = if (l0.length : Int) > 24 then (some false) else (impl_FeedValid.l0L l0 l0 (l0.length : Int) 0) := by
  refine lU (impl_FeedValid.fL_is l0) ?_
  unfold impl_FeedValid.f
  repeat' with_reducible first | exact lK _ | exact impl_FeedValid.l0L_is .. | apply lI | apply lB | intro _
/-! ### impl_PairsValid -/
section
variable (a b : List (S181)) (c d : Int)
noncomputable def impl_PairsValid.l0L : Option (Bool) := Lim (impl_PairsValid.l0 · a b c d)
theorem impl_PairsValid.l0L_is : LimIs (impl_PairsValid.l0 · a b c d) (impl_PairsValid.l0L a b c d) := lM (fun k => (impl_PairsValid.mono_l k).1 a b c d)
end
section
variable (a : List (S181)) (b : Int) (c : List (S181)) (d e : Int) (f : Bool) (g : ByteArray) (i : Int)
noncomputable def impl_PairsValid.j1L : Option (Bool) := Lim (impl_PairsValid.j1 · a b c d e f g i)
theorem impl_PairsValid.j1L_is : LimIs (impl_PairsValid.j1 · a b c d e f g i) (impl_PairsValid.j1L a b c d e f g i) := lM (fun k => (impl_PairsValid.mono_l k).2 a b c d e f g i)
end
section
variable (l0 : List (S181))
noncomputable def impl_PairsValid.fL : Option (Bool) := Lim (impl_PairsValid.f · l0)
theorem impl_PairsValid.fL_is : LimIs (impl_PairsValid.f · l0) (impl_PairsValid.fL l0) := lM (fun k => impl_PairsValid.mono l0 k)
end
theorem impl_PairsValid.l0L_eq (a b : List (S181)) (c d : Int) : impl_PairsValid.l0L a b c d = if d < c then (if 0 ≤ d then (if d < (b.length : Int) then ((impl_KeyValid.fL ((rd_T181 b d).f0)).bind fun t689 => (if t689 = true then ((impl_valueValid.f ((rd_T181 b d).f1)).bind fun t690 => (impl_PairsValid.j1L a d b c d (!t690) ((rd_T181 b d).f0) ((rd_T181 b d).f1))) else (impl_PairsValid.j1L a d b c d true ((rd_T181 b d).f0) ((rd_T181 b d).f1)))) else (none)) else (none)) else (some true) := by
  refine lU (impl_PairsValid.l0L_is a b c d) (LimIs.step1 (by simp only [impl_PairsValid.l0]) ?_)
  simp only [impl_PairsValid.l0]
  repeat' with_reducible first | exact lK _ | exact impl_KeyValid.fL_is .. | exact impl_PairsValid.j1L_is .. | apply lI | apply lB | intro _
theorem impl_PairsValid.j1L_eq (a : List (S181)) (b : Int) (c : List (S181)) (d e : Int) (f : Bool) (g : ByteArray) (i : Int) : impl_PairsValid.j1L a b c d e f g i = if f = true then (some false) else (if b > 0 then (if 0 ≤ (wrap64 (b - 1)) then (if (wrap64 (b - 1)) < (a.length : Int) then (if ((Op.bytesLess (((rd_T181 a (wrap64 (b - 1))).f0).toList) g.toList) = true) then (impl_PairsValid.l0L a c d (wrap64 (e + 1))) else (some false)) else (none)) else (none)) else (impl_PairsValid.l0L a c d (wrap64 (e + 1)))) := by
  refine lU (impl_PairsValid.j1L_is a b c d e f g i) (LimIs.step1 (by simp only [impl_PairsValid.j1]) ?_)
  simp only [impl_PairsValid.j1]
  repeat' with_reducible first | exact lK _ | exact impl_PairsValid.l0L_is .. | apply lI | apply lB | intro _
theorem impl_PairsValid.fL_eq (l0 : List (S181)) : impl_PairsValid.fL l0 = if (l0.length : Int) > 48 then (some false) else (impl_PairsValid.l0L l0 l0 (l0.length : Int) 0) := by
  refine lU (impl_PairsValid.fL_is l0) ?_
  unfold impl_PairsValid.f
  repeat' with_reducible first | exact lK _ | exact impl_PairsValid.l0L_is .. | apply lI | apply lB | intro _
/-! ### impl_Pair_string -/
section
variable (a : List (S181)) (b : ByteArray) (c d e : Int)
noncomputable def impl_Pair_string.l0L : Option (Int × Bool) := Lim (impl_Pair_string.l0 · a b c d e)
theorem impl_Pair_string.l0L_is : LimIs (impl_Pair_string.l0 · a b c d e) (impl_Pair_string.l0L a b c d e) := lM (fun k => (impl_Pair_string.mono_l k) a b c d e)
end
section
variable (l0 : List (S181)) (a1 : ByteArray) (a2 : Unit)
noncomputable def impl_Pair_string.fL : Option (Int × Bool) := Lim (impl_Pair_string.f · l0 a1 a2)
theorem impl_Pair_string.fL_is : LimIs (impl_Pair_string.f · l0 a1 a2) (impl_Pair_string.fL l0 a1 a2) := lM (fun k => impl_Pair_string.mono l0 a1 a2 k)
end
theorem impl_Pair_string.l0L_eq (a : List (S181)) (b : ByteArray) (c d e : Int) : impl_Pair_string.l0L a b c d e = if d < e then (if 0 ≤ (wrap64 ((IntKind.u64.wrap (wrap64 (d + e))) / 2)) then (if (wrap64 ((IntKind.u64.wrap (wrap64 (d + e))) / 2)) < (a.length : Int) then ((impl_pairPlace_1.f ((rd_T181 a (wrap64 ((IntKind.u64.wrap (wrap64 (d + e))) / 2))).f0) ((rd_T181 a (wrap64 ((IntKind.u64.wrap (wrap64 (d + e))) / 2))).f1) b).bind fun t697 => (if t697 < 0 then (impl_Pair_string.l0L a b c (wrap64 ((wrap64 ((IntKind.u64.wrap (wrap64 (d + e))) / 2)) + 1)) e) else (impl_Pair_string.l0L a b c d (wrap64 ((IntKind.u64.wrap (wrap64 (d + e))) / 2))))) else (none)) else (none)) else (if d < c then (if 0 ≤ d then (if d < (a.length : Int) then ((impl_pairPlace_1.f ((rd_T181 a d).f0) ((rd_T181 a d).f1) b).bind fun t699 => (some (d, (t699 == 0)))) else (none)) else (none)) else (some (d, false))) := by
  refine lU (impl_Pair_string.l0L_is a b c d e) (LimIs.step1 (by simp only [impl_Pair_string.l0]) ?_)
  simp only [impl_Pair_string.l0]
  repeat' with_reducible first | exact lK _ | exact impl_Pair_string.l0L_is .. | apply lI | apply lB | intro _
theorem impl_Pair_string.fL_eq (l0 : List (S181)) (a1 : ByteArray) (a2 : Unit) : impl_Pair_string.fL l0 a1 a2 = impl_Pair_string.l0L l0 a1 (l0.length : Int) 0 (l0.length : Int) := by
  refine lU (impl_Pair_string.fL_is l0 a1 a2) ?_
  unfold impl_Pair_string.f
  repeat' with_reducible first | exact lK _ | exact impl_Pair_string.l0L_is .. | apply lI | apply lB | intro _
/-! ### impl_pairPlace -/
section
variable (l0 : List (S181)) (a1 : ByteArray)
noncomputable def impl_pairPlace.fL : Option (Int × Bool) := Lim (impl_pairPlace.f · l0 a1)
theorem impl_pairPlace.fL_is : LimIs (impl_pairPlace.f · l0 a1) (impl_pairPlace.fL l0 a1) := lM (fun k => impl_pairPlace.mono l0 a1 k)
end
theorem impl_pairPlace.fL_eq (l0 : List (S181)) (a1 : ByteArray) : impl_pairPlace.fL l0 a1 = (impl_Pair_string.fL l0 a1 ()).bind fun bt700 => (some (bt700.1, bt700.2)) := by
  refine lU (impl_pairPlace.fL_is l0 a1) ?_
  unfold impl_pairPlace.f
  repeat' with_reducible first | exact lK _ | exact impl_Pair_string.fL_is .. | apply lI | apply lB | intro _
/-! ### impl_PairGet -/
section
variable (l0 : List (S181)) (a1 : ByteArray)
noncomputable def impl_PairGet.fL : Option (Int) := Lim (impl_PairGet.f · l0 a1)
theorem impl_PairGet.fL_is : LimIs (impl_PairGet.f · l0 a1) (impl_PairGet.fL l0 a1) := lM (fun k => impl_PairGet.mono l0 a1 k)
end
theorem impl_PairGet.fL_eq (l0 : List (S181)) (a1 : ByteArray) : impl_PairGet.fL l0 a1 = (impl_PairsValid.fL l0).bind fun t702 => (if t702 = true then ((impl_pairPlace.fL l0 a1).bind fun bt703 => (if bt703.2 = true then (if 0 ≤ bt703.1 then (if bt703.1 < (l0.length : Int) then (some ((rd_T181 l0 bt703.1).f1)) else (none)) else (none)) else (some (-1)))) else (some (-1))) := by
  refine lU (impl_PairGet.fL_is l0 a1) ?_
  unfold impl_PairGet.f
  repeat' with_reducible first | exact lK _ | exact impl_PairsValid.fL_is .. | exact impl_pairPlace.fL_is .. | apply lI | apply lB | intro _
/-! ### impl_PairDrop -/
section
variable (l0 : List (S181)) (a1 : ByteArray)
noncomputable def impl_PairDrop.fL : Option ((List (S181)) × Bool) := Lim (impl_PairDrop.f · l0 a1)
theorem impl_PairDrop.fL_is : LimIs (impl_PairDrop.f · l0 a1) (impl_PairDrop.fL l0 a1) := lM (fun k => impl_PairDrop.mono l0 a1 k)
end
theorem impl_PairDrop.fL_eq (l0 : List (S181)) (a1 : ByteArray) : impl_PairDrop.fL l0 a1 = (impl_PairsValid.fL l0).bind fun t729 => (if t729 = true then ((impl_pairPlace.fL l0 a1).bind fun bt730 => (if bt730.2 = true then ((impl_Pair_192.f l0 bt730.1 1 ([] : List (S181))).bind fun t732 => (some (t732, true))) else ((impl_Pair_126.f l0).bind fun t735 => (some (t735, false))))) else (some (([] : List (S181)), false))) := by
  refine lU (impl_PairDrop.fL_is l0 a1) ?_
  unfold impl_PairDrop.f
  repeat' with_reducible first | exact lK _ | exact impl_PairsValid.fL_is .. | exact impl_pairPlace.fL_is .. | apply lI | apply lB | intro _
/-! ### impl_PairPut -/
section
variable (a : List (S181)) (b : ByteArray) (c : Int) (d : Bool)
noncomputable def impl_PairPut.j0L : Option ((List (S181)) × Bool) := Lim (impl_PairPut.j0 · a b c d)
theorem impl_PairPut.j0L_is : LimIs (impl_PairPut.j0 · a b c d) (impl_PairPut.j0L a b c d) := lM (fun k => (impl_PairPut.mono_l k) a b c d)
end
section
variable (l0 : List (S181)) (a1 : ByteArray) (a2 : Int)
noncomputable def impl_PairPut.fL : Option ((List (S181)) × Bool) := Lim (impl_PairPut.f · l0 a1 a2)
theorem impl_PairPut.fL_is : LimIs (impl_PairPut.f · l0 a1 a2) (impl_PairPut.fL l0 a1 a2) := lM (fun k => impl_PairPut.mono l0 a1 a2 k)
end
theorem impl_PairPut.j0L_eq (a : List (S181)) (b : ByteArray) (c : Int) (d : Bool) : impl_PairPut.j0L a b c d = if d = true then (some (([] : List (S181)), false)) else ((impl_pairPlace.fL a b).bind fun bt741 => (if bt741.2 = true then ((impl_Pair_192.f a bt741.1 1 (([(⟨b, c⟩ : S181)] : List (S181)))).bind fun t746 => (some (t746, true))) else (if (a.length : Int) ≥ 48 then ((impl_Pair_126.f a).bind fun t749 => (some (t749, false))) else ((impl_Pair_192.f a bt741.1 0 (([(⟨b, c⟩ : S181)] : List (S181)))).bind fun t755 => (some (t755, true)))))) := by
  refine lU (impl_PairPut.j0L_is a b c d) (LimIs.step1 (by simp only [impl_PairPut.j0]) ?_)
  simp only [impl_PairPut.j0]
  repeat' with_reducible first | exact lK _ | exact impl_pairPlace.fL_is .. | apply lI | apply lB | intro _
theorem impl_PairPut.fL_eq (l0 : List (S181)) (a1 : ByteArray) (a2 : Int) : impl_PairPut.fL l0 a1 a2 = (impl_PairsValid.fL l0).bind fun t738 => (if t738 = true then ((impl_KeyValid.fL a1).bind fun t739 => (if t739 = true then ((impl_valueValid.f a2).bind fun t740 => (impl_PairPut.j0L l0 a1 a2 (!t740))) else (impl_PairPut.j0L l0 a1 a2 true))) else (impl_PairPut.j0L l0 a1 a2 true)) := by
  refine lU (impl_PairPut.fL_is l0 a1 a2) ?_
  unfold impl_PairPut.f
  repeat' with_reducible first | exact lK _ | exact impl_KeyValid.fL_is .. | exact impl_PairPut.j0L_is .. | exact impl_PairsValid.fL_is .. | apply lI | apply lB | intro _
/-! ### impl_ApplyFeed -/
section
variable (a : List (S181)) (b : List (S106)) (c : Bool)
noncomputable def impl_ApplyFeed.j0L : Option ((List (S181)) × Bool) := Lim (impl_ApplyFeed.j0 · a b c)
theorem impl_ApplyFeed.j0L_is : LimIs (impl_ApplyFeed.j0 · a b c) (impl_ApplyFeed.j0L a b c) := lM (fun k => (impl_ApplyFeed.mono_l k).1 a b c)
end
section
variable (a : List (S181)) (b : List (S106)) (c d : Int)
noncomputable def impl_ApplyFeed.l0L : Option ((List (S181)) × Bool) := Lim (impl_ApplyFeed.l0 · a b c d)
theorem impl_ApplyFeed.l0L_is : LimIs (impl_ApplyFeed.l0 · a b c d) (impl_ApplyFeed.l0L a b c d) := lM (fun k => (impl_ApplyFeed.mono_l k).2 a b c d)
end
section
variable (l0 : List (S181)) (l1 : List (S106))
noncomputable def impl_ApplyFeed.fL : Option ((List (S181)) × Bool) := Lim (impl_ApplyFeed.f · l0 l1)
theorem impl_ApplyFeed.fL_is : LimIs (impl_ApplyFeed.f · l0 l1) (impl_ApplyFeed.fL l0 l1) := lM (fun k => impl_ApplyFeed.mono l0 l1 k)
end
theorem impl_ApplyFeed.j0L_eq (a : List (S181)) (b : List (S106)) (c : Bool) : impl_ApplyFeed.j0L a b c = if c = true then (some (([] : List (S181)), false)) else ((impl_Pair_126.f a).bind fun t760 => (impl_ApplyFeed.l0L t760 b (b.length : Int) 0)) := by
  refine lU (impl_ApplyFeed.j0L_is a b c) (LimIs.step1 (by simp only [impl_ApplyFeed.j0]) ?_)
  simp only [impl_ApplyFeed.j0]
  repeat' with_reducible first | exact lK _ | exact impl_ApplyFeed.l0L_is .. | apply lI | apply lB | intro _
theorem impl_ApplyFeed.l0L_eq (a : List (S181)) (b : List (S106)) (c d : Int) : impl_ApplyFeed.l0L a b c d = if d < c then (if 0 ≤ d then (if d < (b.length : Int) then ((impl_PairGet.fL a ((rd_T106 b d).f1)).bind fun t765 => (if t765 = ((rd_T106 b d).f2) then (if ((rd_T106 b d).f3) = (-1) then ((impl_PairDrop.fL a ((rd_T106 b d).f1)).bind fun bt766 => (if bt766.2 = true then (impl_ApplyFeed.l0L bt766.1 b c (wrap64 (d + 1))) else (some (([] : List (S181)), false)))) else ((impl_PairPut.fL a ((rd_T106 b d).f1) ((rd_T106 b d).f3)).bind fun bt770 => (if bt770.2 = true then (impl_ApplyFeed.l0L bt770.1 b c (wrap64 (d + 1))) else (some (([] : List (S181)), false))))) else (some (([] : List (S181)), false)))) else (none)) else (none)) else (some (a, true)) := by
  refine lU (impl_ApplyFeed.l0L_is a b c d) (LimIs.step1 (by simp only [impl_ApplyFeed.l0]) ?_)
  simp only [impl_ApplyFeed.l0]
  repeat' with_reducible first | exact lK _ | exact impl_ApplyFeed.l0L_is .. | exact impl_PairDrop.fL_is .. | exact impl_PairGet.fL_is .. | exact impl_PairPut.fL_is .. | apply lI | apply lB | intro _
theorem impl_ApplyFeed.fL_eq (l0 : List (S181)) (l1 : List (S106)) : impl_ApplyFeed.fL l0 l1 = (impl_PairsValid.fL l0).bind fun t758 => (if t758 = true then ((impl_FeedValid.fL l1).bind fun t759 => (impl_ApplyFeed.j0L l0 l1 (!t759))) else (impl_ApplyFeed.j0L l0 l1 true)) := by
  refine lU (impl_ApplyFeed.fL_is l0 l1) ?_
  unfold impl_ApplyFeed.f
  repeat' with_reducible first | exact lK _ | exact impl_ApplyFeed.j0L_is .. | exact impl_FeedValid.fL_is .. | exact impl_PairsValid.fL_is .. | apply lI | apply lB | intro _
/-! ### spec_FeedValid -/
section
variable (a : List (S106)) (b : Int)
noncomputable def spec_FeedValid.l0L : Option (Bool) := Lim (spec_FeedValid.l0 · a b)
theorem spec_FeedValid.l0L_is : LimIs (spec_FeedValid.l0 · a b) (spec_FeedValid.l0L a b) := lM (fun k => (spec_FeedValid.mono_l k) a b)
end
section
variable (l0 : List (S106))
noncomputable def spec_FeedValid.fL : Option (Bool) := Lim (spec_FeedValid.f · l0)
theorem spec_FeedValid.fL_is : LimIs (spec_FeedValid.f · l0) (spec_FeedValid.fL l0) := lM (fun k => spec_FeedValid.mono l0 k)
end
theorem spec_FeedValid.l0L_eq (a : List (S106)) (b : Int) : spec_FeedValid.l0L a b = if b < (a.length : Int) then (if 0 ≤ b then (if b ≥ 24 then (some false) else ((spec_l1In.f ((rd_T106 a b).f0) 0 23).bind fun t776 => (if t776 = true then ((spec_KeyValid.fL ((rd_T106 a b).f1)).bind fun t777 => (if t777 = true then ((spec_l1In.f ((rd_T106 a b).f2) (-1) 999).bind fun t778 => (if t778 = true then ((spec_l1In.f ((rd_T106 a b).f3) (-1) 999).bind fun t779 => (if t779 = true then (if ((rd_T106 a b).f2) = ((rd_T106 a b).f3) then (some false) else (if b > 0 then (if 0 ≤ (wrap64 (b - 1)) then (if (wrap64 (b - 1)) < (a.length : Int) then (if ((rd_T106 a b).f0) ≤ ((rd_T106 a (wrap64 (b - 1))).f0) then (some false) else (spec_FeedValid.l0L a (wrap64 (b + 1)))) else (none)) else (none)) else (spec_FeedValid.l0L a (wrap64 (b + 1))))) else (some false))) else (some false))) else (some false))) else (some false)))) else (none)) else (some true) := by
  refine lU (spec_FeedValid.l0L_is a b) (LimIs.step1 (by simp only [spec_FeedValid.l0]) ?_)
  simp only [spec_FeedValid.l0]
  repeat' with_reducible first | exact lK _ | exact spec_FeedValid.l0L_is .. | exact spec_KeyValid.fL_is .. | apply lI | apply lB | intro _
theorem spec_FeedValid.fL_eq (l0 : List (S106)) : spec_FeedValid.fL l0 = spec_FeedValid.l0L l0 0 := by
  refine lU (spec_FeedValid.fL_is l0) ?_
  unfold spec_FeedValid.f
  repeat' with_reducible first | exact lK _ | exact spec_FeedValid.l0L_is .. | apply lI | apply lB | intro _
/-! ### spec_ApplyFeed -/
section
variable (a : List (S181)) (b : List (S106)) (c : Bool)
noncomputable def spec_ApplyFeed.j0L : Option ((List (S181)) × Bool) := Lim (spec_ApplyFeed.j0 · a b c)
theorem spec_ApplyFeed.j0L_is : LimIs (spec_ApplyFeed.j0 · a b c) (spec_ApplyFeed.j0L a b c) := lM (fun k => (spec_ApplyFeed.mono_l k).1 a b c)
end
section
variable (a : List (S106)) (b : List (S181)) (c : Int)
noncomputable def spec_ApplyFeed.l0L : Option ((List (S181)) × Bool) := Lim (spec_ApplyFeed.l0 · a b c)
theorem spec_ApplyFeed.l0L_is : LimIs (spec_ApplyFeed.l0 · a b c) (spec_ApplyFeed.l0L a b c) := lM (fun k => (spec_ApplyFeed.mono_l k).2 a b c)
end
section
variable (l0 : List (S181)) (l1 : List (S106))
noncomputable def spec_ApplyFeed.fL : Option ((List (S181)) × Bool) := Lim (spec_ApplyFeed.f · l0 l1)
theorem spec_ApplyFeed.fL_is : LimIs (spec_ApplyFeed.f · l0 l1) (spec_ApplyFeed.fL l0 l1) := lM (fun k => spec_ApplyFeed.mono l0 l1 k)
end
theorem spec_ApplyFeed.j0L_eq (a : List (S181)) (b : List (S106)) (c : Bool) : spec_ApplyFeed.j0L a b c = if c = true then (some ((([] : List (S181))), false)) else ((some (([] : List (S181)) : List (S181))).bind fun y786 => (if y786.length + a.length < 5864062014805 then (spec_ApplyFeed.l0L b (y786 ++ a) 0) else (none))) := by
  refine lU (spec_ApplyFeed.j0L_is a b c) (LimIs.step1 (by simp only [spec_ApplyFeed.j0]) ?_)
  simp only [spec_ApplyFeed.j0]
  repeat' with_reducible first | exact lK _ | exact spec_ApplyFeed.l0L_is .. | apply lI | apply lB | intro _
theorem spec_ApplyFeed.l0L_eq (a : List (S106)) (b : List (S181)) (c : Int) : spec_ApplyFeed.l0L a b c = if c < (a.length : Int) then (if 0 ≤ c then ((spec_PairGet.fL b ((rd_T106 a c).f1)).bind fun t793 => (if t793 = ((rd_T106 a c).f2) then ((spec_PairDrop.fL b ((rd_T106 a c).f1)).bind fun bt799 => (if ((rd_T106 a c).f3) ≥ 0 then ((spec_PairPut.fL b ((rd_T106 a c).f1) ((rd_T106 a c).f3)).bind fun bt806 => (if bt806.2 = true then (spec_ApplyFeed.l0L a bt806.1 (wrap64 (c + 1))) else (some ((([] : List (S181))), false)))) else (if bt799.2 = true then (spec_ApplyFeed.l0L a bt799.1 (wrap64 (c + 1))) else (some ((([] : List (S181))), false))))) else (some ((([] : List (S181))), false)))) else (none)) else (some (b, true)) := by
  refine lU (spec_ApplyFeed.l0L_is a b c) (LimIs.step1 (by simp only [spec_ApplyFeed.l0]) ?_)
  simp only [spec_ApplyFeed.l0]
  repeat' with_reducible first | exact lK _ | exact spec_ApplyFeed.l0L_is .. | exact spec_PairDrop.fL_is .. | exact spec_PairGet.fL_is .. | exact spec_PairPut.fL_is .. | apply lI | apply lB | intro _
theorem spec_ApplyFeed.fL_eq (l0 : List (S181)) (l1 : List (S106)) : spec_ApplyFeed.fL l0 l1 = (spec_PairsValid.fL l0).bind fun t781 => (if t781 = true then ((spec_FeedValid.fL l1).bind fun t782 => (spec_ApplyFeed.j0L l0 l1 (!t782))) else (spec_ApplyFeed.j0L l0 l1 true)) := by
  refine lU (spec_ApplyFeed.fL_is l0 l1) ?_
  unfold spec_ApplyFeed.f
  repeat' with_reducible first | exact lK _ | exact spec_ApplyFeed.j0L_is .. | exact spec_FeedValid.fL_is .. | exact spec_PairsValid.fL_is .. | apply lI | apply lB | intro _
/-! ### laws_samePairs -/
section
variable (a b : List (S181)) (c : Int)
noncomputable def laws_samePairs.l0L : Option (Bool) := Lim (laws_samePairs.l0 · a b c)
theorem laws_samePairs.l0L_is : LimIs (laws_samePairs.l0 · a b c) (laws_samePairs.l0L a b c) := lM (fun k => (laws_samePairs.mono_l k) a b c)
end
section
variable (l0 l1 : List (S181))
noncomputable def laws_samePairs.fL : Option (Bool) := Lim (laws_samePairs.f · l0 l1)
theorem laws_samePairs.fL_is : LimIs (laws_samePairs.f · l0 l1) (laws_samePairs.fL l0 l1) := lM (fun k => laws_samePairs.mono l0 l1 k)
end
theorem laws_samePairs.l0L_eq (a b : List (S181)) (c : Int) : laws_samePairs.l0L a b c = if c < (a.length : Int) then (if 0 ≤ c then (if c < (b.length : Int) then (if (!((((rd_T181 a c).f0).toList) == (((rd_T181 b c).f0).toList)) || (!(((rd_T181 a c).f1) == ((rd_T181 b c).f1)))) = true then (some false) else (laws_samePairs.l0L a b (wrap64 (c + 1)))) else (none)) else (none)) else (some true) := by
  refine lU (laws_samePairs.l0L_is a b c) (LimIs.step1 (by simp only [laws_samePairs.l0]) ?_)
  simp only [laws_samePairs.l0]
  repeat' with_reducible first | exact lK _ | exact laws_samePairs.l0L_is .. | apply lI | apply lB | intro _
theorem laws_samePairs.fL_eq (l0 l1 : List (S181)) : laws_samePairs.fL l0 l1 = if (l0.length : Int) = (l1.length : Int) then (laws_samePairs.l0L l0 l1 0) else (some false) := by
  refine lU (laws_samePairs.fL_is l0 l1) ?_
  unfold laws_samePairs.f
  repeat' with_reducible first | exact lK _ | exact laws_samePairs.l0L_is .. | apply lI | apply lB | intro _
/-! ### impl_FeedFrom -/
section
variable (a : Int) (b c : List (S106)) (d e : Int)
noncomputable def impl_FeedFrom.l0L : Option ((List (S106))) := Lim (impl_FeedFrom.l0 · a b c d e)
theorem impl_FeedFrom.l0L_is : LimIs (impl_FeedFrom.l0 · a b c d e) (impl_FeedFrom.l0L a b c d e) := lM (fun k => (impl_FeedFrom.mono_l k) a b c d e)
end
section
variable (l0 : List (S106)) (a1 : Int)
noncomputable def impl_FeedFrom.fL : Option ((List (S106))) := Lim (impl_FeedFrom.f · l0 a1)
theorem impl_FeedFrom.fL_is : LimIs (impl_FeedFrom.f · l0 a1) (impl_FeedFrom.fL l0 a1) := lM (fun k => impl_FeedFrom.mono l0 a1 k)
end
theorem impl_FeedFrom.l0L_eq (a : Int) (b c : List (S106)) (d e : Int) : impl_FeedFrom.l0L a b c d e = if e < d then (if 0 ≤ e then (if e < (c.length : Int) then (if ((rd_T106 c e).f0) ≥ a then (if b.length < 3518437208883 then (impl_FeedFrom.l0L a (b ++ [(⟨(rd_T106 c e).f0, (rd_T106 c e).f1, (rd_T106 c e).f2, (rd_T106 c e).f3⟩ : S106)]) c d (wrap64 (e + 1))) else (none)) else (impl_FeedFrom.l0L a b c d (wrap64 (e + 1)))) else (none)) else (none)) else (some b) := by
  refine lU (impl_FeedFrom.l0L_is a b c d e) (LimIs.step1 (by simp only [impl_FeedFrom.l0]) ?_)
  simp only [impl_FeedFrom.l0]
  repeat' with_reducible first | exact lK _ | exact impl_FeedFrom.l0L_is .. | apply lI | apply lB | intro _
theorem impl_FeedFrom.fL_eq (l0 : List (S106)) (a1 : Int) : impl_FeedFrom.fL l0 a1 = (impl_FeedValid.fL l0).bind fun t818 => (if t818 = true then (impl_FeedFrom.l0L a1 ([] : List (S106)) l0 (l0.length : Int) 0) else (some ([] : List (S106)))) := by
  refine lU (impl_FeedFrom.fL_is l0 a1) ?_
  unfold impl_FeedFrom.f
  repeat' with_reducible first | exact lK _ | exact impl_FeedFrom.l0L_is .. | exact impl_FeedValid.fL_is .. | apply lI | apply lB | intro _
/-! ### impl_UndoFeed -/
section
variable (a : List (S106)) (b c : Int) (d : Bool)
noncomputable def impl_UndoFeed.j0L : Option ((List (S106))) := Lim (impl_UndoFeed.j0 · a b c d)
theorem impl_UndoFeed.j0L_is : LimIs (impl_UndoFeed.j0 · a b c d) (impl_UndoFeed.j0L a b c d) := lM (fun k => (impl_UndoFeed.mono_l k).1 a b c d)
end
section
variable (a : List (S106)) (b : Int) (c : List (S106)) (d : Int)
noncomputable def impl_UndoFeed.l0L : Option ((List (S106))) := Lim (impl_UndoFeed.l0 · a b c d)
theorem impl_UndoFeed.l0L_is : LimIs (impl_UndoFeed.l0 · a b c d) (impl_UndoFeed.l0L a b c d) := lM (fun k => (impl_UndoFeed.mono_l k).2 a b c d)
end
section
variable (l0 : List (S106)) (a1 : Int)
noncomputable def impl_UndoFeed.fL : Option ((List (S106))) := Lim (impl_UndoFeed.f · l0 a1)
theorem impl_UndoFeed.fL_is : LimIs (impl_UndoFeed.f · l0 a1) (impl_UndoFeed.fL l0 a1) := lM (fun k => impl_UndoFeed.mono l0 a1 k)
end
theorem impl_UndoFeed.j0L_eq (a : List (S106)) (b c : Int) (d : Bool) : impl_UndoFeed.j0L a b c d = if d = true then (some ([] : List (S106))) else (impl_UndoFeed.l0L a b ([] : List (S106)) c) := by
  refine lU (impl_UndoFeed.j0L_is a b c d) (LimIs.step1 (by simp only [impl_UndoFeed.j0]) ?_)
  simp only [impl_UndoFeed.j0]
  repeat' with_reducible first | exact lK _ | exact impl_UndoFeed.l0L_is .. | apply lI | apply lB | intro _
theorem impl_UndoFeed.l0L_eq (a : List (S106)) (b : Int) (c : List (S106)) (d : Int) : impl_UndoFeed.l0L a b c d = if d ≥ 0 then (if 0 ≤ d then (if d < (a.length : Int) then (if c.length < 3518437208883 then (impl_UndoFeed.l0L a b (c ++ [(⟨wrap64 ((wrap64 (b - 1)) - ((rd_T106 a d).f0)), (rd_T106 a d).f1, (rd_T106 a d).f3, (rd_T106 a d).f2⟩ : S106)]) (wrap64 (d - 1))) else (none)) else (none)) else (none)) else (some c) := by
  refine lU (impl_UndoFeed.l0L_is a b c d) (LimIs.step1 (by simp only [impl_UndoFeed.l0]) ?_)
  simp only [impl_UndoFeed.l0]
  repeat' with_reducible first | exact lK _ | exact impl_UndoFeed.l0L_is .. | apply lI | apply lB | intro _
theorem impl_UndoFeed.fL_eq (l0 : List (S106)) (a1 : Int) : impl_UndoFeed.fL l0 a1 = (impl_FeedValid.fL l0).bind fun t824 => (if t824 = true then (if (wrap64 ((l0.length : Int) - 1)) < 0 then (impl_UndoFeed.j0L l0 a1 (wrap64 ((l0.length : Int) - 1)) true) else (if 0 ≤ (wrap64 ((l0.length : Int) - 1)) then (if (wrap64 ((l0.length : Int) - 1)) < (l0.length : Int) then (if a1 ≤ ((rd_T106 l0 (wrap64 ((l0.length : Int) - 1))).f0) then (impl_UndoFeed.j0L l0 a1 (wrap64 ((l0.length : Int) - 1)) true) else (impl_UndoFeed.j0L l0 a1 (wrap64 ((l0.length : Int) - 1)) (decide (a1 > 24)))) else (none)) else (none))) else (impl_UndoFeed.j0L l0 a1 (wrap64 ((l0.length : Int) - 1)) true)) := by
  refine lU (impl_UndoFeed.fL_is l0 a1) ?_
  unfold impl_UndoFeed.f
  repeat' with_reducible first | exact lK _ | exact impl_FeedValid.fL_is .. | exact impl_UndoFeed.j0L_is .. | apply lI | apply lB | intro _
/-! ### laws_FnApplyFeed -/
section
variable (a : List Int) (b : List (S181)) (c : List (S106)) (d : List (S181)) (e g : Bool)
noncomputable def laws_FnApplyFeed.j0L : Option (Bool) := Lim (laws_FnApplyFeed.j0 · a b c d e g)
theorem laws_FnApplyFeed.j0L_is : LimIs (laws_FnApplyFeed.j0 · a b c d e g) (laws_FnApplyFeed.j0L a b c d e g) := lM (fun k => (laws_FnApplyFeed.mono_l k).1 a b c d e g)
end
section
variable (a : List (S181)) (b : List (S106)) (c : List (S181)) (d e : Int)
noncomputable def laws_FnApplyFeed.j1L : Option (Bool) := Lim (laws_FnApplyFeed.j1 · a b c d e)
theorem laws_FnApplyFeed.j1L_is : LimIs (laws_FnApplyFeed.j1 · a b c d e) (laws_FnApplyFeed.j1L a b c d e) := lM (fun k => (laws_FnApplyFeed.mono_l k).2 a b c d e)
end
section
variable (l0 : List Int)
noncomputable def laws_FnApplyFeed.fL : Option (Bool) := Lim (laws_FnApplyFeed.f · l0)
theorem laws_FnApplyFeed.fL_is : LimIs (laws_FnApplyFeed.f · l0) (laws_FnApplyFeed.fL l0) := lM (fun k => laws_FnApplyFeed.mono l0 k)
end
theorem laws_FnApplyFeed.j0L_eq (a : List Int) (b : List (S181)) (c : List (S106)) (d : List (S181)) (e g : Bool) : laws_FnApplyFeed.j0L a b c d e g = if g = true then (some false) else (if e = true then (if (wrap64 ((c.length : Int) + 1)) = 0 then (none) else (if ((a.length : Int) % (wrap64 ((c.length : Int) + 1))) < (c.length : Int) then (if 0 ≤ ((a.length : Int) % (wrap64 ((c.length : Int) + 1))) then (laws_FnApplyFeed.j1L b c d ((a.length : Int) % (wrap64 ((c.length : Int) + 1))) ((rd_T106 c ((a.length : Int) % (wrap64 ((c.length : Int) + 1)))).f0)) else (none)) else (laws_FnApplyFeed.j1L b c d ((a.length : Int) % (wrap64 ((c.length : Int) + 1))) 24))) else (if (d.length : Int) = 0 then ((laws_alive.fL).bind fun t846 => (some t846)) else (some false))) := by
  refine lU (laws_FnApplyFeed.j0L_is a b c d e g) (LimIs.step1 (by simp only [laws_FnApplyFeed.j0]) ?_)
  simp only [laws_FnApplyFeed.j0]
  repeat' with_reducible first | exact lK _ | exact laws_FnApplyFeed.j1L_is .. | exact laws_alive.fL_is .. | apply lI | apply lB | intro _
theorem laws_FnApplyFeed.j1L_eq (a : List (S181)) (b : List (S106)) (c : List (S181)) (d e : Int) : laws_FnApplyFeed.j1L a b c d e = if 0 ≤ d then (if d ≤ (b.length : Int) then ((impl_ApplyFeed.fL a (b.take (d : Int).toNat)).bind fun bt852 => ((impl_FeedFrom.fL b e).bind fun t856 => ((impl_ApplyFeed.fL bt852.1 t856).bind fun bt859 => ((impl_UndoFeed.fL b 24).bind fun t863 => ((impl_ApplyFeed.fL c t863).bind fun bt866 => (if bt852.2 = true then (if bt859.2 = true then ((laws_samePairs.fL bt859.1 c).bind fun t870 => (if t870 = true then (if bt866.2 = true then ((laws_samePairs.fL bt866.1 a).bind fun t871 => (some t871)) else (some false)) else (some false))) else (some false)) else (some false))))))) else (none)) else (none) := by
  refine lU (laws_FnApplyFeed.j1L_is a b c d e) (LimIs.step1 (by simp only [laws_FnApplyFeed.j1]) ?_)
  simp only [laws_FnApplyFeed.j1]
  repeat' with_reducible first | exact lK _ | exact impl_ApplyFeed.fL_is .. | exact impl_FeedFrom.fL_is .. | exact impl_UndoFeed.fL_is .. | exact laws_samePairs.fL_is .. | apply lI | apply lB | intro _
theorem laws_FnApplyFeed.fL_eq (l0 : List Int) : laws_FnApplyFeed.fL l0 = if (l0.length : Int) > 1048576 then (some true) else ((spec_DrawApplyFeed.fL l0).bind fun bt831 => ((impl_ApplyFeed.fL bt831.1 bt831.2).bind fun bt837 => ((spec_ApplyFeed.fL bt831.1 bt831.2).bind fun bt841 => ((laws_samePairs.fL bt837.1 bt841.1).bind fun t845 => (if t845 = true then (laws_FnApplyFeed.j0L l0 bt831.1 bt831.2 bt837.1 bt837.2 (bt837.2 != bt841.2)) else (laws_FnApplyFeed.j0L l0 bt831.1 bt831.2 bt837.1 bt837.2 true)))))) := by
  refine lU (laws_FnApplyFeed.fL_is l0) ?_
  unfold laws_FnApplyFeed.f
  repeat' with_reducible first | exact lK _ | exact impl_ApplyFeed.fL_is .. | exact laws_FnApplyFeed.j0L_is .. | exact laws_samePairs.fL_is .. | exact spec_ApplyFeed.fL_is .. | exact spec_DrawApplyFeed.fL_is .. | apply lI | apply lB | intro _
end Go.Proofs.Ytcciackemicbbaa.PFnApplyFeed
