/- The limits of the printed functions, and their equations. Written by lim.py out of the print. No condition. -/
import Derived.Test.YtagknifdfpjlbaaDoorPFnPairsTextx6
import Derived.Test.YtagknifdfpjlbaaDoorLim
namespace Go.Proofs.YtagknifdfpjlbaaDoor.PFnPairsText
open Go.RowKit Go.Proofs.YtagknifdfpjlbaaDoorW.PrintWords Go.Proofs.YtagknifdfpjlbaaDoorW.PrintLast Go.Proofs.YtagknifdfpjlbaaDoorW.PrintMore Go.Proofs.YtagknifdfpjlbaaDoor.Lim
set_option linter.unusedVariables false

/-! ### spec_l20Rd_pick -/
section
variable (a : Int) (b : Bool) (c : List Int) (d : Int)
noncomputable def spec_l20Rd_pick.j0L : Option (Int × Int) := Lim (spec_l20Rd_pick.j0 · a b c d)
theorem spec_l20Rd_pick.j0L_is : LimIs (spec_l20Rd_pick.j0 · a b c d) (spec_l20Rd_pick.j0L a b c d) := lM (fun k => (spec_l20Rd_pick.mono_l k) a b c d)
end
section
variable (s0_0 : List Int) (s0_1 a1 : Int)
noncomputable def spec_l20Rd_pick.fL : Option (Int × Int) := Lim (spec_l20Rd_pick.f · s0_0 s0_1 a1)
theorem spec_l20Rd_pick.fL_is : LimIs (spec_l20Rd_pick.f · s0_0 s0_1 a1) (spec_l20Rd_pick.fL s0_0 s0_1 a1) := lM (fun k => spec_l20Rd_pick.mono s0_0 s0_1 a1 k)
end
theorem spec_l20Rd_pick.j0L_eq (a : Int) (b : Bool) (c : List Int) (d : Int) : spec_l20Rd_pick.j0L a b c d = if b = true then (some (0, d)) else (if (wrap64 (d - 1)) < (c.length : Int) then (if 0 ≤ (wrap64 (d - 1)) then (if a = 0 then (none) else (some (Int.tmod (wrap64 (rd c (wrap64 (d - 1)))) a, d))) else (none)) else (if (c.length : Int) = 0 then (none) else (if 0 ≤ (Int.tmod (wrap64 (d - 1)) (c.length : Int)) then (if (Int.tmod (wrap64 (d - 1)) (c.length : Int)) < (c.length : Int) then (if 0 ≤ (Int.tmod (wrap64 ((wrap64 ((wrap64 (d - 1)) * 7)) + 3)) (c.length : Int)) then (if (Int.tmod (wrap64 ((wrap64 ((wrap64 (d - 1)) * 7)) + 3)) (c.length : Int)) < (c.length : Int) then (if a = 0 then (none) else (some (Int.tmod (Go.bits .xor .i64 (wrap64 ((wrap64 ((wrap64 ((wrap64 ((wrap64 (rd c (Int.tmod (wrap64 (d - 1)) (c.length : Int)))) * 131)) + (wrap64 ((wrap64 (rd c (Int.tmod (wrap64 ((wrap64 ((wrap64 (d - 1)) * 7)) + 3)) (c.length : Int)))) * 1117)))) + (wrap64 ((wrap64 (d - 1)) * 29)))) + (wrap64 ((wrap64 (Int.tdiv (wrap64 (d - 1)) (c.length : Int))) * 53)))) (wrap64 (Int.tdiv (wrap64 ((wrap64 ((wrap64 ((wrap64 ((wrap64 (rd c (Int.tmod (wrap64 (d - 1)) (c.length : Int)))) * 131)) + (wrap64 ((wrap64 (rd c (Int.tmod (wrap64 ((wrap64 ((wrap64 (d - 1)) * 7)) + 3)) (c.length : Int)))) * 1117)))) + (wrap64 ((wrap64 (d - 1)) * 29)))) + (wrap64 ((wrap64 (Int.tdiv (wrap64 (d - 1)) (c.length : Int))) * 53)))) 64))) a, d))) else (none)) else (none)) else (none)) else (none)))) := by
  refine lU (spec_l20Rd_pick.j0L_is a b c d) (LimIs.step1 (by simp only [spec_l20Rd_pick.j0]) ?_)
  simp only [spec_l20Rd_pick.j0]
  repeat' with_reducible first | exact lK _ | apply lI | apply lB | intro _
theorem spec_l20Rd_pick.fL_eq (s0_0 : List Int) (s0_1 a1 : Int) : spec_l20Rd_pick.fL s0_0 s0_1 a1 = if a1 < 1 then (spec_l20Rd_pick.j0L a1 true s0_0 (wrap64 (s0_1 + 1))) else (spec_l20Rd_pick.j0L a1 ((s0_0.length : Int) == 0) s0_0 (wrap64 (s0_1 + 1))) := by
  refine lU (spec_l20Rd_pick.fL_is s0_0 s0_1 a1) ?_
  unfold spec_l20Rd_pick.f
  repeat' with_reducible first | exact lK _ | exact spec_l20Rd_pick.j0L_is .. | apply lI | apply lB | intro _
/-! ### spec_KeyValid -/
section
variable (a : ByteArray) (b : Int)
noncomputable def spec_KeyValid.l0L : Option (Bool) := Lim (spec_KeyValid.l0 · a b)
theorem spec_KeyValid.l0L_is : LimIs (spec_KeyValid.l0 · a b) (spec_KeyValid.l0L a b) := lM (fun k => (spec_KeyValid.mono_l k) a b)
end
section
variable (a0 : ByteArray)
noncomputable def spec_KeyValid.fL : Option (Bool) := Lim (spec_KeyValid.f · a0)
theorem spec_KeyValid.fL_is : LimIs (spec_KeyValid.f · a0) (spec_KeyValid.fL a0) := lM (fun k => spec_KeyValid.mono a0 k)
end
theorem spec_KeyValid.l0L_eq (a : ByteArray) (b : Int) : spec_KeyValid.l0L a b = if b < (a.size : Int) then (if 0 ≤ b then (if (bt a b) < 97 then (some false) else (if (bt a b) > 122 then (some false) else (spec_KeyValid.l0L a (wrap64 (b + 1))))) else (none)) else (some true) := by
  refine lU (spec_KeyValid.l0L_is a b) (LimIs.step1 (by simp only [spec_KeyValid.l0]) ?_)
  simp only [spec_KeyValid.l0]
  repeat' with_reducible first | exact lK _ | exact spec_KeyValid.l0L_is .. | apply lI | apply lB | intro _
theorem spec_KeyValid.fL_eq (a0 : ByteArray) : spec_KeyValid.fL a0 = (spec_l1In.f (a0.size : Int) 1 4).bind fun t104 => (if t104 = true then (spec_KeyValid.l0L a0 0) else (some false)) := by
  refine lU (spec_KeyValid.fL_is a0) ?_
  unfold spec_KeyValid.f
  repeat' with_reducible first | exact lK _ | exact spec_KeyValid.l0L_is .. | apply lI | apply lB | intro _
/-! ### spec_PairsValid -/
section
variable (a : List (S47)) (b : Int)
noncomputable def spec_PairsValid.l0L : Option (Bool) := Lim (spec_PairsValid.l0 · a b)
theorem spec_PairsValid.l0L_is : LimIs (spec_PairsValid.l0 · a b) (spec_PairsValid.l0L a b) := lM (fun k => (spec_PairsValid.mono_l k) a b)
end
section
variable (l0 : List (S47))
noncomputable def spec_PairsValid.fL : Option (Bool) := Lim (spec_PairsValid.f · l0)
theorem spec_PairsValid.fL_is : LimIs (spec_PairsValid.f · l0) (spec_PairsValid.fL l0) := lM (fun k => spec_PairsValid.mono l0 k)
end
theorem spec_PairsValid.l0L_eq (a : List (S47)) (b : Int) : spec_PairsValid.l0L a b = if b < (a.length : Int) then (if 0 ≤ b then ((spec_KeyValid.fL ((rd_T47 a b).f0)).bind fun t106 => (if t106 = true then ((spec_l1In.f ((rd_T47 a b).f1) 0 999).bind fun t108 => (if t108 = true then (if b > 0 then (if 0 ≤ (wrap64 (b - 1)) then (if (wrap64 (b - 1)) < (a.length : Int) then (if ((Op.bytesLess (((rd_T47 a (wrap64 (b - 1))).f0).toList) (((rd_T47 a b).f0).toList)) = true) then (spec_PairsValid.l0L a (wrap64 (b + 1))) else (some false)) else (none)) else (none)) else (spec_PairsValid.l0L a (wrap64 (b + 1)))) else (some false))) else (some false))) else (none)) else (some true) := by
  refine lU (spec_PairsValid.l0L_is a b) (LimIs.step1 (by simp only [spec_PairsValid.l0]) ?_)
  simp only [spec_PairsValid.l0]
  repeat' with_reducible first | exact lK _ | exact spec_KeyValid.fL_is .. | exact spec_PairsValid.l0L_is .. | apply lI | apply lB | intro _
theorem spec_PairsValid.fL_eq (l0 : List (S47)) : spec_PairsValid.fL l0 = if (l0.length : Int) > 48 then (some false) else (spec_PairsValid.l0L l0 0) := by
  refine lU (spec_PairsValid.fL_is l0) ?_
  unfold spec_PairsValid.f
  repeat' with_reducible first | exact lK _ | exact spec_PairsValid.l0L_is .. | apply lI | apply lB | intro _
/-! ### spec_l4Place -/
section
variable (a : List (S47)) (b : ByteArray) (c : Int)
noncomputable def spec_l4Place.l0L : Option (Int) := Lim (spec_l4Place.l0 · a b c)
theorem spec_l4Place.l0L_is : LimIs (spec_l4Place.l0 · a b c) (spec_l4Place.l0L a b c) := lM (fun k => (spec_l4Place.mono_l k) a b c)
end
section
variable (l0 : List (S47)) (a1 : ByteArray)
noncomputable def spec_l4Place.fL : Option (Int) := Lim (spec_l4Place.f · l0 a1)
theorem spec_l4Place.fL_is : LimIs (spec_l4Place.f · l0 a1) (spec_l4Place.fL l0 a1) := lM (fun k => spec_l4Place.mono l0 a1 k)
end
theorem spec_l4Place.l0L_eq (a : List (S47)) (b : ByteArray) (c : Int) : spec_l4Place.l0L a b c = if c < (a.length : Int) then (if 0 ≤ c then (if (Op.bytesLess (((rd_T47 a c).f0).toList) b.toList) = true then (spec_l4Place.l0L a b (wrap64 (c + 1))) else (some c)) else (none)) else (some c) := by
  refine lU (spec_l4Place.l0L_is a b c) (LimIs.step1 (by simp only [spec_l4Place.l0]) ?_)
  simp only [spec_l4Place.l0]
  repeat' with_reducible first | exact lK _ | exact spec_l4Place.l0L_is .. | apply lI | apply lB | intro _
theorem spec_l4Place.fL_eq (l0 : List (S47)) (a1 : ByteArray) : spec_l4Place.fL l0 a1 = spec_l4Place.l0L l0 a1 0 := by
  refine lU (spec_l4Place.fL_is l0 a1) ?_
  unfold spec_l4Place.f
  repeat' with_reducible first | exact lK _ | exact spec_l4Place.l0L_is .. | apply lI | apply lB | intro _
/-! ### spec_PairPut -/
section
variable (a : List (S47)) (b : ByteArray) (c : Int) (d : List (S47)) (e : Bool)
noncomputable def spec_PairPut.j0L : Option ((List (S47)) × Bool) := Lim (spec_PairPut.j0 · a b c d e)
theorem spec_PairPut.j0L_is : LimIs (spec_PairPut.j0 · a b c d e) (spec_PairPut.j0L a b c d e) := lM (fun k => (spec_PairPut.mono_l k).1 a b c d e)
end
section
variable (a : List (S47)) (b : ByteArray) (c : Int) (d : List (S47)) (e : Int) (f : Bool)
noncomputable def spec_PairPut.j1L : Option ((List (S47)) × Bool) := Lim (spec_PairPut.j1 · a b c d e f)
theorem spec_PairPut.j1L_is : LimIs (spec_PairPut.j1 · a b c d e f) (spec_PairPut.j1L a b c d e f) := lM (fun k => (spec_PairPut.mono_l k).2 a b c d e f)
end
section
variable (l0 : List (S47)) (a1 : ByteArray) (a2 : Int)
noncomputable def spec_PairPut.fL : Option ((List (S47)) × Bool) := Lim (spec_PairPut.f · l0 a1 a2)
theorem spec_PairPut.fL_is : LimIs (spec_PairPut.f · l0 a1 a2) (spec_PairPut.fL l0 a1 a2) := lM (fun k => spec_PairPut.mono l0 a1 a2 k)
end
theorem spec_PairPut.j0L_eq (a : List (S47)) (b : ByteArray) (c : Int) (d : List (S47)) (e : Bool) : spec_PairPut.j0L a b c d e = if e = true then (some (d, false)) else ((spec_l4Place.fL a b).bind fun t118 => (if t118 < (a.length : Int) then (if 0 ≤ t118 then (spec_PairPut.j1L a b c d t118 (((rd_T47 a t118).f0).toList == b.toList)) else (none)) else (spec_PairPut.j1L a b c d t118 false))) := by
  refine lU (spec_PairPut.j0L_is a b c d e) (LimIs.step1 (by simp only [spec_PairPut.j0]) ?_)
  simp only [spec_PairPut.j0]
  repeat' with_reducible first | exact lK _ | exact spec_PairPut.j1L_is .. | exact spec_l4Place.fL_is .. | apply lI | apply lB | intro _
theorem spec_PairPut.j1L_eq (a : List (S47)) (b : ByteArray) (c : Int) (d : List (S47)) (e : Int) (f : Bool) : spec_PairPut.j1L a b c d e f = if f = true then (if d.length + a.length < 5864062014805 then ((some (d ++ a : List (S47))).bind fun y120 => (if 0 ≤ e then (if e < (y120.length : Int) then (some ((y120.set (e : Int).toNat (⟨(rd_T47 y120 e).f0, c⟩ : S47)), true)) else (none)) else (none))) else (none)) else (if (a.length : Int) ≥ 48 then (if d.length + a.length < 5864062014805 then (some ((d ++ a), false)) else (none)) else (if 0 ≤ e then (if e ≤ (a.length : Int) then ((some (a.take (e : Int).toNat : List (S47))).bind fun y127 => (if d.length + y127.length < 5864062014805 then ((some (d ++ y127 : List (S47))).bind fun y131 => (if y131.length < 5864062014805 then ((some (y131 ++ [(⟨b, c⟩ : S47)] : List (S47))).bind fun y134 => ((some (a.drop (e : Int).toNat : List (S47))).bind fun y137 => (if y134.length + y137.length < 5864062014805 then (some ((y134 ++ y137), true)) else (none)))) else (none))) else (none))) else (none)) else (none))) := by
  refine lU (spec_PairPut.j1L_is a b c d e f) (LimIs.step1 (by simp only [spec_PairPut.j1]) ?_)
  simp only [spec_PairPut.j1]
  repeat' with_reducible first | exact lK _ | apply lI | apply lB | intro _
theorem spec_PairPut.fL_eq (l0 : List (S47)) (a1 : ByteArray) (a2 : Int) : spec_PairPut.fL l0 a1 a2 = (some (([] : List (S47)) : List (S47))).bind fun y112 => ((spec_PairsValid.fL l0).bind fun t115 => (if t115 = true then ((spec_KeyValid.fL a1).bind fun t116 => (if t116 = true then ((spec_l1In.f a2 0 999).bind fun t117 => (spec_PairPut.j0L l0 a1 a2 y112 (!t117))) else (spec_PairPut.j0L l0 a1 a2 y112 true))) else (spec_PairPut.j0L l0 a1 a2 y112 true))) := by
  refine lU (spec_PairPut.fL_is l0 a1 a2) ?_
  unfold spec_PairPut.f
  repeat' with_reducible first | exact lK _ | exact spec_KeyValid.fL_is .. | exact spec_PairPut.j0L_is .. | exact spec_PairsValid.fL_is .. | apply lI | apply lB | intro _
/-! ### spec_l20Rd_odd -/
section
variable (s0_0 : List Int) (s0_1 a1 : Int)
noncomputable def spec_l20Rd_odd.fL : Option (Bool × Int) := Lim (spec_l20Rd_odd.f · s0_0 s0_1 a1)
theorem spec_l20Rd_odd.fL_is : LimIs (spec_l20Rd_odd.f · s0_0 s0_1 a1) (spec_l20Rd_odd.fL s0_0 s0_1 a1) := lM (fun k => spec_l20Rd_odd.mono s0_0 s0_1 a1 k)
end
theorem spec_l20Rd_odd.fL_eq (s0_0 : List Int) (s0_1 a1 : Int) : spec_l20Rd_odd.fL s0_0 s0_1 a1 = if a1 > 0 then ((spec_l20Rd_pick.fL s0_0 s0_1 a1).bind fun bt144 => (some ((bt144.1 == (wrap64 (a1 - 1))), bt144.2))) else (some (false, s0_1)) := by
  refine lU (spec_l20Rd_odd.fL_is s0_0 s0_1 a1) ?_
  unfold spec_l20Rd_odd.f
  repeat' with_reducible first | exact lK _ | exact spec_l20Rd_pick.fL_is .. | apply lI | apply lB | intro _
/-! ### spec_l20Key -/
section
variable (a : ByteArray) (b : Int) (c : List Int) (d : Int)
noncomputable def spec_l20Key.l0L : Option (ByteArray × Int) := Lim (spec_l20Key.l0 · a b c d)
theorem spec_l20Key.l0L_is : LimIs (spec_l20Key.l0 · a b c d) (spec_l20Key.l0L a b c d) := lM (fun k => (spec_l20Key.mono_l k) a b c d)
end
section
variable (s0_0 : List Int) (s0_1 a1 : Int)
noncomputable def spec_l20Key.fL : Option (ByteArray × Int) := Lim (spec_l20Key.f · s0_0 s0_1 a1)
theorem spec_l20Key.fL_is : LimIs (spec_l20Key.f · s0_0 s0_1 a1) (spec_l20Key.fL s0_0 s0_1 a1) := lM (fun k => spec_l20Key.mono s0_0 s0_1 a1 k)
end
theorem spec_l20Key.l0L_eq (a : ByteArray) (b : Int) (c : List Int) (d : Int) : spec_l20Key.l0L a b c d = if b > 0 then ((spec_l20Rd_pick.fL c d 4).bind fun bt164 => ((some (([(wrap64 (97 + bt164.1)) % 256] : List Int) : List Int)).bind fun y166 => (if a.size + (strOfNums y166).size ≤ 9223372036854775807 then (spec_l20Key.l0L (a ++ (strOfNums y166)) (wrap64 (b - 1)) c bt164.2) else (none)))) else (some (a, d)) := by
  refine lU (spec_l20Key.l0L_is a b c d) (LimIs.step1 (by simp only [spec_l20Key.l0]) ?_)
  simp only [spec_l20Key.l0]
  repeat' with_reducible first | exact lK _ | exact spec_l20Key.l0L_is .. | exact spec_l20Rd_pick.fL_is .. | apply lI | apply lB | intro _
theorem spec_l20Key.fL_eq (s0_0 : List Int) (s0_1 a1 : Int) : spec_l20Key.fL s0_0 s0_1 a1 = (spec_l20Rd_odd.fL s0_0 s0_1 a1).bind fun bt146 => (if bt146.1 = true then ((some (([(⟨#[]⟩ : ByteArray), (⟨#[65]⟩ : ByteArray), (⟨#[97, 49]⟩ : ByteArray), (⟨#[97, 98, 99, 100, 101]⟩ : ByteArray), (⟨#[98, 123]⟩ : ByteArray), (⟨#[97, 32, 98]⟩ : ByteArray)] : List ByteArray) : List ByteArray)).bind fun y148 => ((spec_l20Rd_pick.fL s0_0 bt146.2 6).bind fun bt151 => (if 0 ≤ bt151.1 then (if bt151.1 < (y148.length : Int) then (some (rdOf ByteArray.empty y148 bt151.1, bt151.2)) else (none)) else (none)))) else ((spec_l20Rd_pick.fL s0_0 bt146.2 12).bind fun bt154 => (if bt154.1 = 11 then ((some (([(⟨#[122, 122, 122, 122]⟩ : ByteArray), (⟨#[122, 122, 122]⟩ : ByteArray), (⟨#[97, 122, 122, 122]⟩ : ByteArray), (⟨#[122]⟩ : ByteArray), (⟨#[97, 97, 97, 97]⟩ : ByteArray)] : List ByteArray) : List ByteArray)).bind fun y156 => ((spec_l20Rd_pick.fL s0_0 bt154.2 5).bind fun bt159 => (if 0 ≤ bt159.1 then (if bt159.1 < (y156.length : Int) then (some (rdOf ByteArray.empty y156 bt159.1, bt159.2)) else (none)) else (none)))) else ((spec_l20Rd_pick.fL s0_0 bt154.2 2).bind fun bt162 => (spec_l20Key.l0L (⟨#[]⟩ : ByteArray) (wrap64 (1 + bt162.1)) s0_0 bt162.2))))) := by
  refine lU (spec_l20Key.fL_is s0_0 s0_1 a1) ?_
  unfold spec_l20Key.f
  repeat' with_reducible first | exact lK _ | exact spec_l20Key.l0L_is .. | exact spec_l20Rd_odd.fL_is .. | exact spec_l20Rd_pick.fL_is .. | apply lI | apply lB | intro _
/-! ### spec_l20Value -/
section
variable (s0_0 : List Int) (s0_1 a1 : Int)
noncomputable def spec_l20Value.fL : Option (Int × Int) := Lim (spec_l20Value.f · s0_0 s0_1 a1)
theorem spec_l20Value.fL_is : LimIs (spec_l20Value.f · s0_0 s0_1 a1) (spec_l20Value.fL s0_0 s0_1 a1) := lM (fun k => spec_l20Value.mono s0_0 s0_1 a1 k)
end
theorem spec_l20Value.fL_eq (s0_0 : List Int) (s0_1 a1 : Int) : spec_l20Value.fL s0_0 s0_1 a1 = (spec_l20Rd_odd.fL s0_0 s0_1 a1).bind fun bt169 => (if bt169.1 = true then ((some (([(-1), 1000] : List Int) : List Int)).bind fun y171 => ((spec_l20Rd_pick.fL s0_0 bt169.2 2).bind fun bt174 => (if 0 ≤ bt174.1 then (if bt174.1 < (y171.length : Int) then (some (rd y171 bt174.1, bt174.2)) else (none)) else (none)))) else ((spec_l20Rd_pick.fL s0_0 bt169.2 20).bind fun bt177 => ((some (([bt177.1, 999] : List Int) : List Int)).bind fun y179 => ((spec_l20Rd_pick.fL s0_0 bt177.2 9).bind fun bt182 => (if 0 ≤ (wrap64 (Int.tdiv bt182.1 8)) then (if (wrap64 (Int.tdiv bt182.1 8)) < (y179.length : Int) then (some (rd y179 (wrap64 (Int.tdiv bt182.1 8)), bt182.2)) else (none)) else (none)))))) := by
  refine lU (spec_l20Value.fL_is s0_0 s0_1 a1) ?_
  unfold spec_l20Value.f
  repeat' with_reducible first | exact lK _ | exact spec_l20Rd_odd.fL_is .. | exact spec_l20Rd_pick.fL_is .. | apply lI | apply lB | intro _
/-! ### spec_KeyAt -/
section
variable (a : Int) (b : ByteArray) (c : Int)
noncomputable def spec_KeyAt.l0L : Option (ByteArray) := Lim (spec_KeyAt.l0 · a b c)
theorem spec_KeyAt.l0L_is : LimIs (spec_KeyAt.l0 · a b c) (spec_KeyAt.l0L a b c) := lM (fun k => (spec_KeyAt.mono_l k) a b c)
end
section
variable (a0 : Int)
noncomputable def spec_KeyAt.fL : Option (ByteArray) := Lim (spec_KeyAt.f · a0)
theorem spec_KeyAt.fL_is : LimIs (spec_KeyAt.f · a0) (spec_KeyAt.fL a0) := lM (fun k => spec_KeyAt.mono a0 k)
end
theorem spec_KeyAt.l0L_eq (a : Int) (b : ByteArray) (c : Int) : spec_KeyAt.l0L a b c = if c < 4 then ((spec_l1Weight.f c).bind fun t186 => (if t186 = 0 then (none) else ((some (([(wrap64 (97 + (wrap64 (Int.tdiv a t186)))) % 256] : List Int) : List Int)).bind fun y187 => (if b.size + (strOfNums y187).size ≤ 9223372036854775807 then ((spec_l1Weight.f c).bind fun t190 => (if t190 = 0 then (none) else (if (Int.tmod a t190) = 0 then (some (b ++ (strOfNums y187))) else (spec_KeyAt.l0L (wrap64 ((Int.tmod a t190) - 1)) (b ++ (strOfNums y187)) (wrap64 (c + 1)))))) else (none))))) else (some b) := by
  refine lU (spec_KeyAt.l0L_is a b c) (LimIs.step1 (by simp only [spec_KeyAt.l0]) ?_)
  simp only [spec_KeyAt.l0]
  repeat' with_reducible first | exact lK _ | exact spec_KeyAt.l0L_is .. | apply lI | apply lB | intro _
theorem spec_KeyAt.fL_eq (a0 : Int) : spec_KeyAt.fL a0 = (spec_l1In.f a0 0 475253).bind fun t185 => (if t185 = true then (spec_KeyAt.l0L a0 (⟨#[]⟩ : ByteArray) 0) else (some (⟨#[]⟩ : ByteArray))) := by
  refine lU (spec_KeyAt.fL_is a0) ?_
  unfold spec_KeyAt.f
  repeat' with_reducible first | exact lK _ | exact spec_KeyAt.l0L_is .. | apply lI | apply lB | intro _
/-! ### spec_l20Pairs -/
section
variable (a : Int) (b : List (S47)) (c : Int) (d : List Int) (e : Int)
noncomputable def spec_l20Pairs.l0L : Option ((List (S47)) × Int) := Lim (spec_l20Pairs.l0 · a b c d e)
theorem spec_l20Pairs.l0L_is : LimIs (spec_l20Pairs.l0 · a b c d e) (spec_l20Pairs.l0L a b c d e) := lM (fun k => (spec_l20Pairs.mono_l k).1 a b c d e)
end
section
variable (a : Int) (b : List (S47)) (c : List Int) (d : Int)
noncomputable def spec_l20Pairs.j3L : Option ((List (S47)) × Int) := Lim (spec_l20Pairs.j3 · a b c d)
theorem spec_l20Pairs.j3L_is : LimIs (spec_l20Pairs.j3 · a b c d) (spec_l20Pairs.j3L a b c d) := lM (fun k => (spec_l20Pairs.mono_l k).2.1 a b c d)
end
section
variable (a : Int) (b : List (S47)) (c : Int) (d : List Int) (e : Int)
noncomputable def spec_l20Pairs.l1L : Option ((List (S47)) × Int) := Lim (spec_l20Pairs.l1 · a b c d e)
theorem spec_l20Pairs.l1L_is : LimIs (spec_l20Pairs.l1 · a b c d e) (spec_l20Pairs.l1L a b c d e) := lM (fun k => (spec_l20Pairs.mono_l k).2.2.1 a b c d e)
end
section
variable (a : Int) (b : List (S47)) (c : Int) (d : Bool) (e : List Int) (g : Int)
noncomputable def spec_l20Pairs.j2L : Option ((List (S47)) × Int) := Lim (spec_l20Pairs.j2 · a b c d e g)
theorem spec_l20Pairs.j2L_is : LimIs (spec_l20Pairs.j2 · a b c d e g) (spec_l20Pairs.j2L a b c d e g) := lM (fun k => (spec_l20Pairs.mono_l k).2.2.2 a b c d e g)
end
section
variable (s0_0 : List Int) (s0_1 a1 : Int)
noncomputable def spec_l20Pairs.fL : Option ((List (S47)) × Int) := Lim (spec_l20Pairs.f · s0_0 s0_1 a1)
theorem spec_l20Pairs.fL_is : LimIs (spec_l20Pairs.f · s0_0 s0_1 a1) (spec_l20Pairs.fL s0_0 s0_1 a1) := lM (fun k => spec_l20Pairs.mono s0_0 s0_1 a1 k)
end
theorem spec_l20Pairs.l0L_eq (a : Int) (b : List (S47)) (c : Int) (d : List Int) (e : Int) : spec_l20Pairs.l0L a b c d e = if c > 0 then ((spec_l20Key.fL d e 0).bind fun bt196 => ((spec_l20Value.fL d bt196.2 0).bind fun bt198 => ((spec_PairPut.fL b bt196.1 bt198.1).bind fun bt200 => (spec_l20Pairs.l0L a bt200.1 (wrap64 (c - 1)) d bt198.2)))) else ((spec_l20Rd_pick.fL d e 16).bind fun bt204 => (if bt204.1 = 15 then (spec_l20Pairs.l1L a b 0 d bt204.2) else (spec_l20Pairs.j3L a b d bt204.2))) := by
  refine lU (spec_l20Pairs.l0L_is a b c d e) (LimIs.step1 (by simp only [spec_l20Pairs.l0]) ?_)
  simp only [spec_l20Pairs.l0]
  repeat' with_reducible first | exact lK _ | exact spec_PairPut.fL_is .. | exact spec_l20Key.fL_is .. | exact spec_l20Pairs.j3L_is .. | exact spec_l20Pairs.l0L_is .. | exact spec_l20Pairs.l1L_is .. | exact spec_l20Rd_pick.fL_is .. | exact spec_l20Value.fL_is .. | apply lI | apply lB | intro _
theorem spec_l20Pairs.j3L_eq (a : Int) (b : List (S47)) (c : List Int) (d : Int) : spec_l20Pairs.j3L a b c d = (spec_l20Rd_odd.fL c d a).bind fun bt211 => (if bt211.1 = true then ((some (([(⟨(⟨#[]⟩ : ByteArray), 0⟩ : S47), (⟨(⟨#[122, 122, 122, 122]⟩ : ByteArray), (-1)⟩ : S47), (⟨(⟨#[122, 122, 122, 122]⟩ : ByteArray), 1000⟩ : S47), (⟨(⟨#[97]⟩ : ByteArray), 1⟩ : S47), (⟨(⟨#[65]⟩ : ByteArray), 0⟩ : S47)] : List (S47)) : List (S47))).bind fun y213 => ((spec_l20Rd_pick.fL c bt211.2 5).bind fun bt216 => (if 0 ≤ bt216.1 then (if bt216.1 < (y213.length : Int) then (if b.length < 5864062014805 then (some ((b ++ [(⟨(rd_T47 y213 bt216.1).f0, (rd_T47 y213 bt216.1).f1⟩ : S47)]), bt216.2)) else (none)) else (none)) else (none)))) else (some (b, bt211.2))) := by
  refine lU (spec_l20Pairs.j3L_is a b c d) (LimIs.step1 (by simp only [spec_l20Pairs.j3]) ?_)
  simp only [spec_l20Pairs.j3]
  repeat' with_reducible first | exact lK _ | exact spec_l20Rd_odd.fL_is .. | exact spec_l20Rd_pick.fL_is .. | apply lI | apply lB | intro _
theorem spec_l20Pairs.l1L_eq (a : Int) (b : List (S47)) (c : Int) (d : List Int) (e : Int) : spec_l20Pairs.l1L a b c d e = if (b.length : Int) < 48 then (spec_l20Pairs.j2L a b c (decide (c < 200)) d e) else (spec_l20Pairs.j2L a b c false d e) := by
  refine lU (spec_l20Pairs.l1L_is a b c d e) (LimIs.step1 (by simp only [spec_l20Pairs.l1]) ?_)
  simp only [spec_l20Pairs.l1]
  repeat' with_reducible first | exact lK _ | exact spec_l20Pairs.j2L_is .. | apply lI | apply lB | intro _
theorem spec_l20Pairs.j2L_eq (a : Int) (b : List (S47)) (c : Int) (d : Bool) (e : List Int) (g : Int) : spec_l20Pairs.j2L a b c d e g = if d = true then ((spec_KeyAt.fL (wrap64 (c * 9))).bind fun t206 => ((spec_PairPut.fL b t206 c).bind fun bt207 => (spec_l20Pairs.l1L a bt207.1 (wrap64 (c + 1)) e g))) else (spec_l20Pairs.j3L a b e g) := by
  refine lU (spec_l20Pairs.j2L_is a b c d e g) (LimIs.step1 (by simp only [spec_l20Pairs.j2]) ?_)
  simp only [spec_l20Pairs.j2]
  repeat' with_reducible first | exact lK _ | exact spec_KeyAt.fL_is .. | exact spec_PairPut.fL_is .. | exact spec_l20Pairs.j3L_is .. | exact spec_l20Pairs.l1L_is .. | apply lI | apply lB | intro _
theorem spec_l20Pairs.fL_eq (s0_0 : List Int) (s0_1 a1 : Int) : spec_l20Pairs.fL s0_0 s0_1 a1 = (spec_l20Rd_pick.fL s0_0 s0_1 9).bind fun bt194 => (spec_l20Pairs.l0L a1 (([] : List (S47))) bt194.1 s0_0 bt194.2) := by
  refine lU (spec_l20Pairs.fL_is s0_0 s0_1 a1) ?_
  unfold spec_l20Pairs.f
  repeat' with_reducible first | exact lK _ | exact spec_l20Pairs.l0L_is .. | exact spec_l20Rd_pick.fL_is .. | apply lI | apply lB | intro _
/-! ### spec_DrawPairsText -/
section
variable (l0 : List Int)
noncomputable def spec_DrawPairsText.fL : Option ((List (S47))) := Lim (spec_DrawPairsText.f · l0)
theorem spec_DrawPairsText.fL_is : LimIs (spec_DrawPairsText.f · l0) (spec_DrawPairsText.fL l0) := lM (fun k => spec_DrawPairsText.mono l0 k)
end
theorem spec_DrawPairsText.fL_eq (l0 : List Int) : spec_DrawPairsText.fL l0 = (spec_l20Open.f l0).bind fun bt228 => ((spec_l20Pairs.fL bt228.1 bt228.2 6).bind fun bt231 => (some bt231.1)) := by
  refine lU (spec_DrawPairsText.fL_is l0) ?_
  unfold spec_DrawPairsText.f
  repeat' with_reducible first | exact lK _ | exact spec_l20Pairs.fL_is .. | apply lI | apply lB | intro _
/-! ### impl_lettersOnly -/
section
variable (a0 : ByteArray)
noncomputable def impl_lettersOnly.fL : Option (Bool) := Lim (impl_lettersOnly.f · a0)
theorem impl_lettersOnly.fL_is : LimIs (impl_lettersOnly.f · a0) (impl_lettersOnly.fL a0) := lM (fun k => impl_lettersOnly.mono a0 k)
end
theorem impl_lettersOnly.fL_eq (a0 : ByteArray) : impl_lettersOnly.fL a0 = if a0.toList = ([] : List UInt8) then (some true) else (if 0 < (a0.size : Int) then (if (bt a0 0) ≥ 97 then (if (bt a0 0) ≤ 122 then (if 1 ≤ (a0.size : Int) then ((impl_lettersOnly.fL (a0.extract 1 a0.size)).bind fun t235 => (some t235)) else (none)) else (some false)) else (some false)) else (none)) := by
  refine lU (impl_lettersOnly.fL_is a0) (LimIs.step1 (by simp only [impl_lettersOnly.f]) ?_)
  simp only [impl_lettersOnly.f]
  repeat' with_reducible first | exact lK _ | exact impl_lettersOnly.fL_is .. | apply lI | apply lB | intro _
/-! ### impl_KeyValid -/
section
variable (a0 : ByteArray)
noncomputable def impl_KeyValid.fL : Option (Bool) := Lim (impl_KeyValid.f · a0)
theorem impl_KeyValid.fL_is : LimIs (impl_KeyValid.f · a0) (impl_KeyValid.fL a0) := lM (fun k => impl_KeyValid.mono a0 k)
end
theorem impl_KeyValid.fL_eq (a0 : ByteArray) : impl_KeyValid.fL a0 = if (a0.size : Int) < 1 then (some false) else (if (a0.size : Int) > 4 then (some false) else ((impl_lettersOnly.fL a0).bind fun t236 => (some t236))) := by
  refine lU (impl_KeyValid.fL_is a0) ?_
  unfold impl_KeyValid.f
  repeat' with_reducible first | exact lK _ | exact impl_lettersOnly.fL_is .. | apply lI | apply lB | intro _
/-! ### impl_PairsValid -/
section
variable (a b : List (S47)) (c d : Int)
noncomputable def impl_PairsValid.l0L : Option (Bool) := Lim (impl_PairsValid.l0 · a b c d)
theorem impl_PairsValid.l0L_is : LimIs (impl_PairsValid.l0 · a b c d) (impl_PairsValid.l0L a b c d) := lM (fun k => (impl_PairsValid.mono_l k).1 a b c d)
end
section
variable (a : List (S47)) (b : Int) (c : List (S47)) (d e : Int) (f : Bool) (g : ByteArray) (i : Int)
noncomputable def impl_PairsValid.j1L : Option (Bool) := Lim (impl_PairsValid.j1 · a b c d e f g i)
theorem impl_PairsValid.j1L_is : LimIs (impl_PairsValid.j1 · a b c d e f g i) (impl_PairsValid.j1L a b c d e f g i) := lM (fun k => (impl_PairsValid.mono_l k).2 a b c d e f g i)
end
section
variable (l0 : List (S47))
noncomputable def impl_PairsValid.fL : Option (Bool) := Lim (impl_PairsValid.f · l0)
theorem impl_PairsValid.fL_is : LimIs (impl_PairsValid.f · l0) (impl_PairsValid.fL l0) := lM (fun k => impl_PairsValid.mono l0 k)
end
theorem impl_PairsValid.l0L_eq (a b : List (S47)) (c d : Int) : impl_PairsValid.l0L a b c d = if d < c then (if 0 ≤ d then (if d < (b.length : Int) then ((impl_KeyValid.fL ((rd_T47 b d).f0)).bind fun t239 => (if t239 = true then ((impl_valueValid.f ((rd_T47 b d).f1)).bind fun t240 => (impl_PairsValid.j1L a d b c d (!t240) ((rd_T47 b d).f0) ((rd_T47 b d).f1))) else (impl_PairsValid.j1L a d b c d true ((rd_T47 b d).f0) ((rd_T47 b d).f1)))) else (none)) else (none)) else (some true) := by
  refine lU (impl_PairsValid.l0L_is a b c d) (LimIs.step1 (by simp only [impl_PairsValid.l0]) ?_)
  simp only [impl_PairsValid.l0]
  repeat' with_reducible first | exact lK _ | exact impl_KeyValid.fL_is .. | exact impl_PairsValid.j1L_is .. | apply lI | apply lB | intro _
theorem impl_PairsValid.j1L_eq (a : List (S47)) (b : Int) (c : List (S47)) (d e : Int) (f : Bool) (g : ByteArray) (i : Int) : impl_PairsValid.j1L a b c d e f g i = if f = true then (some false) else (if b > 0 then (if 0 ≤ (wrap64 (b - 1)) then (if (wrap64 (b - 1)) < (a.length : Int) then (if ((Op.bytesLess (((rd_T47 a (wrap64 (b - 1))).f0).toList) g.toList) = true) then (impl_PairsValid.l0L a c d (wrap64 (e + 1))) else (some false)) else (none)) else (none)) else (impl_PairsValid.l0L a c d (wrap64 (e + 1)))) := by
  refine lU (impl_PairsValid.j1L_is a b c d e f g i) (LimIs.step1 (by simp only [impl_PairsValid.j1]) ?_)
  simp only [impl_PairsValid.j1]
  repeat' with_reducible first | exact lK _ | exact impl_PairsValid.l0L_is .. | apply lI | apply lB | intro _
theorem impl_PairsValid.fL_eq (l0 : List (S47)) : impl_PairsValid.fL l0 = if (l0.length : Int) > 48 then (some false) else (impl_PairsValid.l0L l0 l0 (l0.length : Int) 0) := by
  refine lU (impl_PairsValid.fL_is l0) ?_
  unfold impl_PairsValid.f
  repeat' with_reducible first | exact lK _ | exact impl_PairsValid.l0L_is .. | apply lI | apply lB | intro _
/-! ### impl_PairsText -/
section
variable (a : List ByteArray) (b : List (S47)) (c d : Int)
noncomputable def impl_PairsText.l0L : Option (ByteArray) := Lim (impl_PairsText.l0 · a b c d)
theorem impl_PairsText.l0L_is : LimIs (impl_PairsText.l0 · a b c d) (impl_PairsText.l0L a b c d) := lM (fun k => (impl_PairsText.mono_l k) a b c d)
end
section
variable (l0 : List (S47))
noncomputable def impl_PairsText.fL : Option (ByteArray) := Lim (impl_PairsText.f · l0)
theorem impl_PairsText.fL_is : LimIs (impl_PairsText.f · l0) (impl_PairsText.fL l0) := lM (fun k => impl_PairsText.mono l0 k)
end
theorem impl_PairsText.l0L_eq (a : List ByteArray) (b : List (S47)) (c d : Int) : impl_PairsText.l0L a b c d = if d < c then (if 0 ≤ d then (if d < (b.length : Int) then (if ((rd_T47 b d).f0).size + 1 ≤ 9223372036854775807 then ((strconv_Itoa.f ((rd_T47 b d).f1)).bind fun t245 => (if (((rd_T47 b d).f0) ++ (⟨#[61]⟩ : ByteArray)).size + t245.size ≤ 9223372036854775807 then (if a.length < 8796093022208 then (impl_PairsText.l0L (a ++ [(((rd_T47 b d).f0) ++ (⟨#[61]⟩ : ByteArray)) ++ t245]) b c (wrap64 (d + 1))) else (none)) else (none))) else (none)) else (none)) else (none)) else ((strings_Join.f a (⟨#[32]⟩ : ByteArray)).bind fun t249 => (some t249)) := by
  refine lU (impl_PairsText.l0L_is a b c d) (LimIs.step1 (by simp only [impl_PairsText.l0]) ?_)
  simp only [impl_PairsText.l0]
  repeat' with_reducible first | exact lK _ | exact impl_PairsText.l0L_is .. | apply lI | apply lB | intro _
theorem impl_PairsText.fL_eq (l0 : List (S47)) : impl_PairsText.fL l0 = (impl_PairsValid.fL l0).bind fun t242 => (if t242 = true then (impl_PairsText.l0L ([] : List ByteArray) l0 (l0.length : Int) 0) else (some (⟨#[]⟩ : ByteArray))) := by
  refine lU (impl_PairsText.fL_is l0) ?_
  unfold impl_PairsText.f
  repeat' with_reducible first | exact lK _ | exact impl_PairsText.l0L_is .. | exact impl_PairsValid.fL_is .. | apply lI | apply lB | intro _
/-! ### spec_l7Text -/
section
variable (a : Int) (b : ByteArray)
noncomputable def spec_l7Text.l0L : Option (ByteArray) := Lim (spec_l7Text.l0 · a b)
theorem spec_l7Text.l0L_is : LimIs (spec_l7Text.l0 · a b) (spec_l7Text.l0L a b) := lM (fun k => (spec_l7Text.mono_l k) a b)
end
section
variable (a0 : Int)
noncomputable def spec_l7Text.fL : Option (ByteArray) := Lim (spec_l7Text.f · a0)
theorem spec_l7Text.fL_is : LimIs (spec_l7Text.f · a0) (spec_l7Text.fL a0) := lM (fun k => spec_l7Text.mono a0 k)
end
theorem spec_l7Text.l0L_eq (a : Int) (b : ByteArray) : spec_l7Text.l0L a b = if a > 9 then ((some (([(wrap64 (48 + (Int.tmod (wrap64 (Int.tdiv a 10)) 10))) % 256] : List Int) : List Int)).bind fun y253 => (if (strOfNums y253).size + b.size ≤ 9223372036854775807 then (spec_l7Text.l0L (wrap64 (Int.tdiv a 10)) ((strOfNums y253) ++ b)) else (none))) else (some b) := by
  refine lU (spec_l7Text.l0L_is a b) (LimIs.step1 (by simp only [spec_l7Text.l0]) ?_)
  simp only [spec_l7Text.l0]
  repeat' with_reducible first | exact lK _ | exact spec_l7Text.l0L_is .. | apply lI | apply lB | intro _
theorem spec_l7Text.fL_eq (a0 : Int) : spec_l7Text.fL a0 = if a0 < 0 then (some (⟨#[45, 49]⟩ : ByteArray)) else (spec_l7Text.l0L a0 (strOfNums (([(wrap64 (48 + (Int.tmod a0 10))) % 256] : List Int)))) := by
  refine lU (spec_l7Text.fL_is a0) ?_
  unfold spec_l7Text.f
  repeat' with_reducible first | exact lK _ | exact spec_l7Text.l0L_is .. | apply lI | apply lB | intro _
/-! ### spec_PairsText -/
section
variable (a : List (S47)) (b : ByteArray) (c : Int)
noncomputable def spec_PairsText.l0L : Option (ByteArray) := Lim (spec_PairsText.l0 · a b c)
theorem spec_PairsText.l0L_is : LimIs (spec_PairsText.l0 · a b c) (spec_PairsText.l0L a b c) := lM (fun k => (spec_PairsText.mono_l k).1 a b c)
end
section
variable (a : List (S47)) (b : ByteArray) (c : Int) (d : Bool)
noncomputable def spec_PairsText.j1L : Option (ByteArray) := Lim (spec_PairsText.j1 · a b c d)
theorem spec_PairsText.j1L_is : LimIs (spec_PairsText.j1 · a b c d) (spec_PairsText.j1L a b c d) := lM (fun k => (spec_PairsText.mono_l k).2 a b c d)
end
section
variable (l0 : List (S47))
noncomputable def spec_PairsText.fL : Option (ByteArray) := Lim (spec_PairsText.f · l0)
theorem spec_PairsText.fL_is : LimIs (spec_PairsText.f · l0) (spec_PairsText.fL l0) := lM (fun k => spec_PairsText.mono l0 k)
end
theorem spec_PairsText.l0L_eq (a : List (S47)) (b : ByteArray) (c : Int) : spec_PairsText.l0L a b c = if c < (a.length : Int) then ((spec_PairsValid.fL a).bind fun t256 => (spec_PairsText.j1L a b c t256)) else (spec_PairsText.j1L a b c false) := by
  refine lU (spec_PairsText.l0L_is a b c) (LimIs.step1 (by simp only [spec_PairsText.l0]) ?_)
  simp only [spec_PairsText.l0]
  repeat' with_reducible first | exact lK _ | exact spec_PairsText.j1L_is .. | exact spec_PairsValid.fL_is .. | apply lI | apply lB | intro _
theorem spec_PairsText.j1L_eq (a : List (S47)) (b : ByteArray) (c : Int) (d : Bool) : spec_PairsText.j1L a b c d = if d = true then (if c > 0 then (if b.size + 1 ≤ 9223372036854775807 then (if 0 ≤ c then (if c < (a.length : Int) then (if (b ++ (⟨#[32]⟩ : ByteArray)).size + ((rd_T47 a c).f0).size ≤ 9223372036854775807 then (if ((b ++ (⟨#[32]⟩ : ByteArray)) ++ ((rd_T47 a c).f0)).size + 1 ≤ 9223372036854775807 then ((spec_l7Text.fL ((rd_T47 a c).f1)).bind fun t259 => (if (((b ++ (⟨#[32]⟩ : ByteArray)) ++ ((rd_T47 a c).f0)) ++ (⟨#[61]⟩ : ByteArray)).size + t259.size ≤ 9223372036854775807 then (spec_PairsText.l0L a ((((b ++ (⟨#[32]⟩ : ByteArray)) ++ ((rd_T47 a c).f0)) ++ (⟨#[61]⟩ : ByteArray)) ++ t259) (wrap64 (c + 1))) else (none))) else (none)) else (none)) else (none)) else (none)) else (none)) else (if 0 ≤ c then (if c < (a.length : Int) then (if b.size + ((rd_T47 a c).f0).size ≤ 9223372036854775807 then (if (b ++ ((rd_T47 a c).f0)).size + 1 ≤ 9223372036854775807 then ((spec_l7Text.fL ((rd_T47 a c).f1)).bind fun t262 => (if ((b ++ ((rd_T47 a c).f0)) ++ (⟨#[61]⟩ : ByteArray)).size + t262.size ≤ 9223372036854775807 then (spec_PairsText.l0L a (((b ++ ((rd_T47 a c).f0)) ++ (⟨#[61]⟩ : ByteArray)) ++ t262) (wrap64 (c + 1))) else (none))) else (none)) else (none)) else (none)) else (none))) else (some b) := by
  refine lU (spec_PairsText.j1L_is a b c d) (LimIs.step1 (by simp only [spec_PairsText.j1]) ?_)
  simp only [spec_PairsText.j1]
  repeat' with_reducible first | exact lK _ | exact spec_PairsText.l0L_is .. | exact spec_l7Text.fL_is .. | apply lI | apply lB | intro _
theorem spec_PairsText.fL_eq (l0 : List (S47)) : spec_PairsText.fL l0 = spec_PairsText.l0L l0 (⟨#[]⟩ : ByteArray) 0 := by
  refine lU (spec_PairsText.fL_is l0) ?_
  unfold spec_PairsText.f
  repeat' with_reducible first | exact lK _ | exact spec_PairsText.l0L_is .. | apply lI | apply lB | intro _
/-! ### impl_keysFrom -/
section
variable (a0 : Int)
noncomputable def impl_keysFrom.fL : Option (Int) := Lim (impl_keysFrom.f · a0)
theorem impl_keysFrom.fL_is : LimIs (impl_keysFrom.f · a0) (impl_keysFrom.fL a0) := lM (fun k => impl_keysFrom.mono a0 k)
end
theorem impl_keysFrom.fL_eq (a0 : Int) : impl_keysFrom.fL a0 = if a0 ≥ 4 then (some 1) else ((impl_keysFrom.fL (wrap64 (a0 + 1))).bind fun t263 => (some (wrap64 (1 + (wrap64 (26 * t263)))))) := by
  refine lU (impl_keysFrom.fL_is a0) (LimIs.step1 (by simp only [impl_keysFrom.f]) ?_)
  simp only [impl_keysFrom.f]
  repeat' with_reducible first | exact lK _ | exact impl_keysFrom.fL_is .. | apply lI | apply lB | intro _
/-! ### impl_rankBelow -/
section
variable (a0 : ByteArray) (a1 : Int)
noncomputable def impl_rankBelow.fL : Option (Int) := Lim (impl_rankBelow.f · a0 a1)
theorem impl_rankBelow.fL_is : LimIs (impl_rankBelow.f · a0 a1) (impl_rankBelow.fL a0 a1) := lM (fun k => impl_rankBelow.mono a0 a1 k)
end
theorem impl_rankBelow.fL_eq (a0 : ByteArray) (a1 : Int) : impl_rankBelow.fL a0 a1 = if a0.toList = ([] : List UInt8) then (some 0) else (if 0 < (a0.size : Int) then ((impl_keysFrom.fL a1).bind fun t264 => (if 1 ≤ (a0.size : Int) then ((impl_rankBelow.fL (a0.extract 1 a0.size) (wrap64 (a1 + 1))).bind fun t265 => (some (wrap64 ((wrap64 (1 + (wrap64 ((((bt a0 0) - 97) % 256) * t264)))) + t265)))) else (none))) else (none)) := by
  refine lU (impl_rankBelow.fL_is a0 a1) (LimIs.step1 (by simp only [impl_rankBelow.f]) ?_)
  simp only [impl_rankBelow.f]
  repeat' with_reducible first | exact lK _ | exact impl_keysFrom.fL_is .. | exact impl_rankBelow.fL_is .. | apply lI | apply lB | intro _
/-! ### impl_KeyRank -/
section
variable (a0 : ByteArray)
noncomputable def impl_KeyRank.fL : Option (Int) := Lim (impl_KeyRank.f · a0)
theorem impl_KeyRank.fL_is : LimIs (impl_KeyRank.f · a0) (impl_KeyRank.fL a0) := lM (fun k => impl_KeyRank.mono a0 k)
end
theorem impl_KeyRank.fL_eq (a0 : ByteArray) : impl_KeyRank.fL a0 = (impl_KeyValid.fL a0).bind fun t266 => (if t266 = true then ((impl_rankBelow.fL a0 1).bind fun t267 => (some (wrap64 (t267 - 1)))) else (some (-1))) := by
  refine lU (impl_KeyRank.fL_is a0) ?_
  unfold impl_KeyRank.f
  repeat' with_reducible first | exact lK _ | exact impl_KeyValid.fL_is .. | exact impl_rankBelow.fL_is .. | apply lI | apply lB | intro _
/-! ### laws_alive -/
section
noncomputable def laws_alive.fL : Option (Bool) := Lim (laws_alive.f ·)
theorem laws_alive.fL_is : LimIs (laws_alive.f ·) (laws_alive.fL) := lM (fun k => laws_alive.mono k)
end
theorem laws_alive.fL_eq : laws_alive.fL = (impl_KeyRank.fL (⟨#[97, 97]⟩ : ByteArray)).bind fun t268 => (if t268 = 1 then ((impl_KeyRank.fL (⟨#[]⟩ : ByteArray)).bind fun t269 => (some (t269 == (-1)))) else (some false)) := by
  refine lU (laws_alive.fL_is) ?_
  unfold laws_alive.f
  repeat' with_reducible first | exact lK _ | exact impl_KeyRank.fL_is .. | apply lI | apply lB | intro _
/-! ### impl_ReadPairs -/
section
variable (a : ByteArray) (b : List (S47)) (c : List ByteArray) (d e : Int)
noncomputable def impl_ReadPairs.l0L : Option ((List (S47)) × Bool) := Lim (impl_ReadPairs.l0 · a b c d e)
theorem impl_ReadPairs.l0L_is : LimIs (impl_ReadPairs.l0 · a b c d e) (impl_ReadPairs.l0L a b c d e) := lM (fun k => (impl_ReadPairs.mono_l k) a b c d e)
end
section
variable (a0 : ByteArray)
noncomputable def impl_ReadPairs.fL : Option ((List (S47)) × Bool) := Lim (impl_ReadPairs.f · a0)
theorem impl_ReadPairs.fL_is : LimIs (impl_ReadPairs.f · a0) (impl_ReadPairs.fL a0) := lM (fun k => impl_ReadPairs.mono a0 k)
end
theorem impl_ReadPairs.l0L_eq (a : ByteArray) (b : List (S47)) (c : List ByteArray) (d e : Int) : impl_ReadPairs.l0L a b c d e = if e < d then (if 0 ≤ e then (if e < (c.length : Int) then ((strings_Cut.f (rdOf ByteArray.empty c e) (⟨#[61]⟩ : ByteArray)).bind fun bt277 => ((impl_numberOf.f bt277.2.1).bind fun t280 => (if b.length < 5864062014805 then (impl_ReadPairs.l0L a (b ++ [(⟨bt277.1, t280⟩ : S47)]) c d (wrap64 (e + 1))) else (none)))) else (none)) else (none)) else ((impl_PairsValid.fL b).bind fun t284 => (if t284 = true then ((impl_PairsText.fL b).bind fun t285 => (if t285.toList = a.toList then (some (b, true)) else (some (([] : List (S47)), false)))) else (some (([] : List (S47)), false)))) := by
  refine lU (impl_ReadPairs.l0L_is a b c d e) (LimIs.step1 (by simp only [impl_ReadPairs.l0]) ?_)
  simp only [impl_ReadPairs.l0]
  repeat' with_reducible first | exact lK _ | exact impl_PairsText.fL_is .. | exact impl_PairsValid.fL_is .. | exact impl_ReadPairs.l0L_is .. | apply lI | apply lB | intro _
theorem impl_ReadPairs.fL_eq (a0 : ByteArray) : impl_ReadPairs.fL a0 = if a0.toList = ([] : List UInt8) then (some (([] : List (S47)), true)) else ((strings_Split.f a0 (⟨#[32]⟩ : ByteArray)).bind fun t273 => (if (t273.length : Int) > 48 then (some (([] : List (S47)), false)) else (impl_ReadPairs.l0L a0 ([] : List (S47)) t273 (t273.length : Int) 0))) := by
  refine lU (impl_ReadPairs.fL_is a0) ?_
  unfold impl_ReadPairs.f
  repeat' with_reducible first | exact lK _ | exact impl_ReadPairs.l0L_is .. | apply lI | apply lB | intro _
/-! ### laws_samePairs -/
section
variable (a b : List (S47)) (c : Int)
noncomputable def laws_samePairs.l0L : Option (Bool) := Lim (laws_samePairs.l0 · a b c)
theorem laws_samePairs.l0L_is : LimIs (laws_samePairs.l0 · a b c) (laws_samePairs.l0L a b c) := lM (fun k => (laws_samePairs.mono_l k) a b c)
end
section
variable (l0 l1 : List (S47))
noncomputable def laws_samePairs.fL : Option (Bool) := Lim (laws_samePairs.f · l0 l1)
theorem laws_samePairs.fL_is : LimIs (laws_samePairs.f · l0 l1) (laws_samePairs.fL l0 l1) := lM (fun k => laws_samePairs.mono l0 l1 k)
end
theorem laws_samePairs.l0L_eq (a b : List (S47)) (c : Int) : laws_samePairs.l0L a b c = if c < (a.length : Int) then (if 0 ≤ c then (if c < (b.length : Int) then (if (!((((rd_T47 a c).f0).toList) == (((rd_T47 b c).f0).toList)) || (!(((rd_T47 a c).f1) == ((rd_T47 b c).f1)))) = true then (some false) else (laws_samePairs.l0L a b (wrap64 (c + 1)))) else (none)) else (none)) else (some true) := by
  refine lU (laws_samePairs.l0L_is a b c) (LimIs.step1 (by simp only [laws_samePairs.l0]) ?_)
  simp only [laws_samePairs.l0]
  repeat' with_reducible first | exact lK _ | exact laws_samePairs.l0L_is .. | apply lI | apply lB | intro _
theorem laws_samePairs.fL_eq (l0 l1 : List (S47)) : laws_samePairs.fL l0 l1 = if (l0.length : Int) = (l1.length : Int) then (laws_samePairs.l0L l0 l1 0) else (some false) := by
  refine lU (laws_samePairs.fL_is l0 l1) ?_
  unfold laws_samePairs.f
  repeat' with_reducible first | exact lK _ | exact laws_samePairs.l0L_is .. | apply lI | apply lB | intro _
/-! ### laws_FnPairsText -/
section
variable (l0 : List Int)
noncomputable def laws_FnPairsText.fL : Option (Bool) := Lim (laws_FnPairsText.f · l0)
theorem laws_FnPairsText.fL_is : LimIs (laws_FnPairsText.f · l0) (laws_FnPairsText.fL l0) := lM (fun k => laws_FnPairsText.mono l0 k)
end
theorem laws_FnPairsText.fL_eq (l0 : List Int) : laws_FnPairsText.fL l0 = if (l0.length : Int) > 1048576 then (some true) else ((spec_DrawPairsText.fL l0).bind fun t288 => ((impl_PairsText.fL t288).bind fun t291 => ((spec_PairsText.fL t288).bind fun t292 => (if t291.toList = t292.toList then (if t291.toList = ([] : List UInt8) then (if (t288.length : Int) = 0 then ((laws_alive.fL).bind fun t293 => (some t293)) else ((impl_PairsValid.fL t288).bind fun t294 => (if t294 = true then (some false) else ((laws_alive.fL).bind fun t295 => (some t295))))) else ((impl_ReadPairs.fL t291).bind fun bt296 => (if bt296.2 = true then ((laws_samePairs.fL bt296.1 t288).bind fun t300 => (some t300)) else (some false)))) else (some false))))) := by
  refine lU (laws_FnPairsText.fL_is l0) ?_
  unfold laws_FnPairsText.f
  repeat' with_reducible first | exact lK _ | exact impl_PairsText.fL_is .. | exact impl_PairsValid.fL_is .. | exact impl_ReadPairs.fL_is .. | exact laws_alive.fL_is .. | exact laws_samePairs.fL_is .. | exact spec_DrawPairsText.fL_is .. | exact spec_PairsText.fL_is .. | apply lI | apply lB | intro _
end Go.Proofs.YtagknifdfpjlbaaDoor.PFnPairsText
