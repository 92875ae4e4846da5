/- The limits of the printed functions, and their equations. Written by lim.py out of the print. No condition. -/
import Derived.Test.YtfeeifefmenlmaaPFnFeedFromx20
import Derived.Test.YtfeeifefmenlmaaLim
namespace Go.Proofs.Ytfeeifefmenlmaa.PFnFeedFrom
open Go.RowKit Go.Proofs.YtfeeifefmenlmaaW.PrintWords Go.Proofs.YtfeeifefmenlmaaW.PrintLast Go.Proofs.YtfeeifefmenlmaaW.PrintMore Go.Proofs.Ytfeeifefmenlmaa.Lim
set_option linter.unusedVariables false

/-! ### impl_lettersOnly -/
section
variable (a0 : ByteArray)
noncomputable def impl_lettersOnly.fL : Option (Bool) := Lim (impl_lettersOnly.f · a0)
theorem impl_lettersOnly.fL_is : LimIs (impl_lettersOnly.f · a0) (impl_lettersOnly.fL a0) := lM (fun k => impl_lettersOnly.mono a0 k)
end
theorem impl_lettersOnly.fL_eq (a0 : ByteArray) : impl_lettersOnly.fL a0 = if a0.toList = ([] : List UInt8) then (some true) else (if 0 < (a0.size : Int) then (if (bt a0 0) ≥ 97 then (if (bt a0 0) ≤ 122 then (if 1 ≤ (a0.size : Int) then ((impl_lettersOnly.fL (a0.extract 1 a0.size)).bind fun t101 => (some t101)) else (none)) else (some false)) else (some false)) else (none)) := by
  refine lU (impl_lettersOnly.fL_is a0) (LimIs.step1 (by simp only [impl_lettersOnly.f]) ?_)
  simp only [impl_lettersOnly.f]
  repeat' with_reducible first | exact lK _ | exact impl_lettersOnly.fL_is .. | apply lI | apply lB | intro _
/-! ### impl_KeyValid -/
section
variable (a0 : ByteArray)
noncomputable def impl_KeyValid.fL : Option (Bool) := Lim (impl_KeyValid.f · a0)
theorem impl_KeyValid.fL_is : LimIs (impl_KeyValid.f · a0) (impl_KeyValid.fL a0) := lM (fun k => impl_KeyValid.mono a0 k)
end
theorem impl_KeyValid.fL_eq (a0 : ByteArray) : impl_KeyValid.fL a0 = if (a0.size : Int) < 1 then (some false) else (if (a0.size : Int) > 4 then (some false) else ((impl_lettersOnly.fL a0).bind fun t102 => (some t102))) := by
  refine lU (impl_KeyValid.fL_is a0) ?_
  unfold impl_KeyValid.f
  repeat' with_reducible first | exact lK _ | exact impl_lettersOnly.fL_is .. | apply lI | apply lB | intro _
/-! ### impl_keysFrom -/
section
variable (a0 : Int)
noncomputable def impl_keysFrom.fL : Option (Int) := Lim (impl_keysFrom.f · a0)
theorem impl_keysFrom.fL_is : LimIs (impl_keysFrom.f · a0) (impl_keysFrom.fL a0) := lM (fun k => impl_keysFrom.mono a0 k)
end
theorem impl_keysFrom.fL_eq (a0 : Int) : impl_keysFrom.fL a0 = if a0 ≥ 4 then (some 1) else ((impl_keysFrom.fL (wrap64 (a0 + 1))).bind fun t103 => (some (wrap64 (1 + (wrap64 (26 * t103)))))) := by
  refine lU (impl_keysFrom.fL_is a0) (LimIs.step1 (by simp only [impl_keysFrom.f]) ?_)
  simp only [impl_keysFrom.f]
  repeat' with_reducible first | exact lK _ | exact impl_keysFrom.fL_is .. | apply lI | apply lB | intro _
/-! ### impl_rankBelow -/
section
variable (a0 : ByteArray) (a1 : Int)
noncomputable def impl_rankBelow.fL : Option (Int) := Lim (impl_rankBelow.f · a0 a1)
theorem impl_rankBelow.fL_is : LimIs (impl_rankBelow.f · a0 a1) (impl_rankBelow.fL a0 a1) := lM (fun k => impl_rankBelow.mono a0 a1 k)
end
theorem impl_rankBelow.fL_eq (a0 : ByteArray) (a1 : Int) : impl_rankBelow.fL a0 a1 = if a0.toList = ([] : List UInt8) then (some 0) else (if 0 < (a0.size : Int) then ((impl_keysFrom.fL a1).bind fun t104 => (if 1 ≤ (a0.size : Int) then ((impl_rankBelow.fL (a0.extract 1 a0.size) (wrap64 (a1 + 1))).bind fun t105 => (some (wrap64 ((wrap64 (1 + (wrap64 ((((bt a0 0) - 97) % 256) * t104)))) + t105)))) else (none))) else (none)) := by
  refine lU (impl_rankBelow.fL_is a0 a1) (LimIs.step1 (by simp only [impl_rankBelow.f]) ?_)
  simp only [impl_rankBelow.f]
  repeat' with_reducible first | exact lK _ | exact impl_keysFrom.fL_is .. | exact impl_rankBelow.fL_is .. | apply lI | apply lB | intro _
/-! ### impl_KeyRank -/
section
variable (a0 : ByteArray)
noncomputable def impl_KeyRank.fL : Option (Int) := Lim (impl_KeyRank.f · a0)
theorem impl_KeyRank.fL_is : LimIs (impl_KeyRank.f · a0) (impl_KeyRank.fL a0) := lM (fun k => impl_KeyRank.mono a0 k)
end
theorem impl_KeyRank.fL_eq (a0 : ByteArray) : impl_KeyRank.fL a0 = (impl_KeyValid.fL a0).bind fun t106 => (if t106 = true then ((impl_rankBelow.fL a0 1).bind fun t107 => (some (wrap64 (t107 - 1)))) else (some (-1))) := by
  refine lU (impl_KeyRank.fL_is a0) ?_
  unfold impl_KeyRank.f
  repeat' with_reducible first | exact lK _ | exact impl_KeyValid.fL_is .. | exact impl_rankBelow.fL_is .. | apply lI | apply lB | intro _
/-! ### laws_alive -/
section
noncomputable def laws_alive.fL : Option (Bool) := Lim (laws_alive.f ·)
theorem laws_alive.fL_is : LimIs (laws_alive.f ·) (laws_alive.fL) := lM (fun k => laws_alive.mono k)
end
theorem laws_alive.fL_eq : laws_alive.fL = (impl_KeyRank.fL (⟨#[97, 97]⟩ : ByteArray)).bind fun t108 => (if t108 = 1 then ((impl_KeyRank.fL (⟨#[]⟩ : ByteArray)).bind fun t109 => (some (t109 == (-1)))) else (some false)) := by
  refine lU (laws_alive.fL_is) ?_
  unfold laws_alive.f
  repeat' with_reducible first | exact lK _ | exact impl_KeyRank.fL_is .. | apply lI | apply lB | intro _
/-! ### impl_FeedValid -/
section
variable (a b : List (S75)) (c d : Int)
noncomputable def impl_FeedValid.l0L : Option (Bool) := Lim (impl_FeedValid.l0 · a b c d)
theorem impl_FeedValid.l0L_is : LimIs (impl_FeedValid.l0 · a b c d) (impl_FeedValid.l0L a b c d) := lM (fun k => (impl_FeedValid.mono_l k).1 a b c d)
end
section
variable (a : List (S75)) (b : Int) (c : List (S75)) (d e : Int) (g : Bool) (i : Int) (j : ByteArray) (l m : Int)
noncomputable def impl_FeedValid.j1L : Option (Bool) := Lim (impl_FeedValid.j1 · a b c d e g i j l m)
theorem impl_FeedValid.j1L_is : LimIs (impl_FeedValid.j1 · a b c d e g i j l m) (impl_FeedValid.j1L a b c d e g i j l m) := lM (fun k => (impl_FeedValid.mono_l k).2.1 a b c d e g i j l m)
end
section
variable (a : List (S75)) (b : Int) (c : List (S75)) (d e : Int) (f : Bool) (g : Int) (i : ByteArray) (j l : Int)
noncomputable def impl_FeedValid.j2L : Option (Bool) := Lim (impl_FeedValid.j2 · a b c d e f g i j l)
theorem impl_FeedValid.j2L_is : LimIs (impl_FeedValid.j2 · a b c d e f g i j l) (impl_FeedValid.j2L a b c d e f g i j l) := lM (fun k => (impl_FeedValid.mono_l k).2.2 a b c d e f g i j l)
end
section
variable (l0 : List (S75))
noncomputable def impl_FeedValid.fL : Option (Bool) := Lim (impl_FeedValid.f · l0)
theorem impl_FeedValid.fL_is : LimIs (impl_FeedValid.f · l0) (impl_FeedValid.fL l0) := lM (fun k => impl_FeedValid.mono l0 k)
end
theorem impl_FeedValid.l0L_eq (a b : List (S75)) (c d : Int) : impl_FeedValid.l0L a b c d = if d < c then (if 0 ≤ d then (if d < (b.length : Int) then (if ((rd_T75 b d).f0) < 0 then (impl_FeedValid.j1L a d b c d true ((rd_T75 b d).f0) ((rd_T75 b d).f1) ((rd_T75 b d).f2) ((rd_T75 b d).f3)) else (if ((rd_T75 b d).f0) ≥ 24 then (impl_FeedValid.j1L a d b c d true ((rd_T75 b d).f0) ((rd_T75 b d).f1) ((rd_T75 b d).f2) ((rd_T75 b d).f3)) else ((impl_KeyValid.fL ((rd_T75 b d).f1)).bind fun t112 => (if t112 = true then (impl_FeedValid.j1L a d b c d (((rd_T75 b d).f2) == ((rd_T75 b d).f3)) ((rd_T75 b d).f0) ((rd_T75 b d).f1) ((rd_T75 b d).f2) ((rd_T75 b d).f3)) else (impl_FeedValid.j1L a d b c d true ((rd_T75 b d).f0) ((rd_T75 b d).f1) ((rd_T75 b d).f2) ((rd_T75 b d).f3)))))) else (none)) else (none)) else (some true) := by
  refine lU (impl_FeedValid.l0L_is a b c d) (LimIs.step1 (by simp only [impl_FeedValid.l0]) ?_)
  simp only [impl_FeedValid.l0]
  repeat' with_reducible first | exact lK _ | exact impl_FeedValid.j1L_is .. | exact impl_KeyValid.fL_is .. | apply lI | apply lB | intro _
theorem impl_FeedValid.j1L_eq (a : List (S75)) (b : Int) (c : List (S75)) (d e : Int) (g : Bool) (i : Int) (j : ByteArray) (l m : Int) : impl_FeedValid.j1L a b c d e g i j l m = if g = true then (some false) else (if l = (-1) then (if m = (-1) then (impl_FeedValid.j2L a b c d e false i j l m) else ((impl_valueValid.f m).bind fun t113 => (impl_FeedValid.j2L a b c d e (!t113) i j l m))) else ((impl_valueValid.f l).bind fun t114 => (if t114 = true then (if m = (-1) then (impl_FeedValid.j2L a b c d e false i j l m) else ((impl_valueValid.f m).bind fun t115 => (impl_FeedValid.j2L a b c d e (!t115) i j l m))) else (impl_FeedValid.j2L a b c d e true i j l m)))) := by
  refine lU (impl_FeedValid.j1L_is a b c d e g i j l m) (LimIs.step1 (by simp only [impl_FeedValid.j1]) ?_)
  simp only [impl_FeedValid.j1]
  repeat' with_reducible first | exact lK _ | exact impl_FeedValid.j2L_is .. | apply lI | apply lB | intro _
theorem impl_FeedValid.j2L_eq (a : List (S75)) (b : Int) (c : List (S75)) (d e : Int) (f : Bool) (g : Int) (i : ByteArray) (j l : Int) : impl_FeedValid.j2L a b c d e f g i j l = if f = true then (some false) else (if b > 0 then (if 0 ≤ (wrap64 (b - 1)) then (if (wrap64 (b - 1)) < (a.length : Int) then (if ((rd_T75 a (wrap64 (b - 1))).f0) ≥ g then (some false) else (impl_FeedValid.l0L a c d (wrap64 (e + 1)))) else (none)) else (none)) else (impl_FeedValid.l0L a c d (wrap64 (e + 1)))) := by
  refine lU (impl_FeedValid.j2L_is a b c d e f g i j l) (LimIs.step1 (by simp only [impl_FeedValid.j2]) ?_)
  simp only [impl_FeedValid.j2]
  repeat' with_reducible first | exact lK _ | exact impl_FeedValid.l0L_is .. | apply lI | apply lB | intro _
theorem impl_FeedValid.fL_eq (l0 : List (S75)) : impl_FeedValid.fL l0 = if (l0.length : Int) > 24 then (some false) else (impl_FeedValid.l0L l0 l0 (l0.length : Int) 0) := by
  refine lU (impl_FeedValid.fL_is l0) ?_
  unfold impl_FeedValid.f
  repeat' with_reducible first | exact lK _ | exact impl_FeedValid.l0L_is .. | apply lI | apply lB | intro _
/-! ### spec_l20Rd_pick -/
section
variable (a : Int) (b : Bool) (c : List Int) (d : Int)
noncomputable def spec_l20Rd_pick.j0L : Option (Int × Int) := Lim (spec_l20Rd_pick.j0 · a b c d)
theorem spec_l20Rd_pick.j0L_is : LimIs (spec_l20Rd_pick.j0 · a b c d) (spec_l20Rd_pick.j0L a b c d) := lM (fun k => (spec_l20Rd_pick.mono_l k) a b c d)
end
section
variable (s0_0 : List Int) (s0_1 a1 : Int)
noncomputable def spec_l20Rd_pick.fL : Option (Int × Int) := Lim (spec_l20Rd_pick.f · s0_0 s0_1 a1)
theorem spec_l20Rd_pick.fL_is : LimIs (spec_l20Rd_pick.f · s0_0 s0_1 a1) (spec_l20Rd_pick.fL s0_0 s0_1 a1) := lM (fun k => spec_l20Rd_pick.mono s0_0 s0_1 a1 k)
end
theorem spec_l20Rd_pick.j0L_eq (a : Int) (b : Bool) (c : List Int) (d : Int) : spec_l20Rd_pick.j0L a b c d = if b = true then (some (0, d)) else (if (wrap64 (d - 1)) < (c.length : Int) then (if 0 ≤ (wrap64 (d - 1)) then (if a = 0 then (none) else (some (Int.tmod (wrap64 (rd c (wrap64 (d - 1)))) a, d))) else (none)) else (if (c.length : Int) = 0 then (none) else (if 0 ≤ (Int.tmod (wrap64 (d - 1)) (c.length : Int)) then (if (Int.tmod (wrap64 (d - 1)) (c.length : Int)) < (c.length : Int) then (if 0 ≤ (Int.tmod (wrap64 ((wrap64 ((wrap64 (d - 1)) * 7)) + 3)) (c.length : Int)) then (if (Int.tmod (wrap64 ((wrap64 ((wrap64 (d - 1)) * 7)) + 3)) (c.length : Int)) < (c.length : Int) then (if a = 0 then (none) else (some (Int.tmod (Go.bits .xor .i64 (wrap64 ((wrap64 ((wrap64 ((wrap64 ((wrap64 (rd c (Int.tmod (wrap64 (d - 1)) (c.length : Int)))) * 131)) + (wrap64 ((wrap64 (rd c (Int.tmod (wrap64 ((wrap64 ((wrap64 (d - 1)) * 7)) + 3)) (c.length : Int)))) * 1117)))) + (wrap64 ((wrap64 (d - 1)) * 29)))) + (wrap64 ((wrap64 (Int.tdiv (wrap64 (d - 1)) (c.length : Int))) * 53)))) (wrap64 (Int.tdiv (wrap64 ((wrap64 ((wrap64 ((wrap64 ((wrap64 (rd c (Int.tmod (wrap64 (d - 1)) (c.length : Int)))) * 131)) + (wrap64 ((wrap64 (rd c (Int.tmod (wrap64 ((wrap64 ((wrap64 (d - 1)) * 7)) + 3)) (c.length : Int)))) * 1117)))) + (wrap64 ((wrap64 (d - 1)) * 29)))) + (wrap64 ((wrap64 (Int.tdiv (wrap64 (d - 1)) (c.length : Int))) * 53)))) 64))) a, d))) else (none)) else (none)) else (none)) else (none)))) := by
  refine lU (spec_l20Rd_pick.j0L_is a b c d) (LimIs.step1 (by simp only [spec_l20Rd_pick.j0]) ?_)
  simp only [spec_l20Rd_pick.j0]
  repeat' with_reducible first | exact lK _ | apply lI | apply lB | intro _
theorem spec_l20Rd_pick.fL_eq (s0_0 : List Int) (s0_1 a1 : Int) : spec_l20Rd_pick.fL s0_0 s0_1 a1 = if a1 < 1 then (spec_l20Rd_pick.j0L a1 true s0_0 (wrap64 (s0_1 + 1))) else (spec_l20Rd_pick.j0L a1 ((s0_0.length : Int) == 0) s0_0 (wrap64 (s0_1 + 1))) := by
  refine lU (spec_l20Rd_pick.fL_is s0_0 s0_1 a1) ?_
  unfold spec_l20Rd_pick.f
  repeat' with_reducible first | exact lK _ | exact spec_l20Rd_pick.j0L_is .. | apply lI | apply lB | intro _
/-! ### spec_KeyValid -/
section
variable (a : ByteArray) (b : Int)
noncomputable def spec_KeyValid.l0L : Option (Bool) := Lim (spec_KeyValid.l0 · a b)
theorem spec_KeyValid.l0L_is : LimIs (spec_KeyValid.l0 · a b) (spec_KeyValid.l0L a b) := lM (fun k => (spec_KeyValid.mono_l k) a b)
end
section
variable (a0 : ByteArray)
noncomputable def spec_KeyValid.fL : Option (Bool) := Lim (spec_KeyValid.f · a0)
theorem spec_KeyValid.fL_is : LimIs (spec_KeyValid.f · a0) (spec_KeyValid.fL a0) := lM (fun k => spec_KeyValid.mono a0 k)
end
theorem spec_KeyValid.l0L_eq (a : ByteArray) (b : Int) : spec_KeyValid.l0L a b = if b < (a.size : Int) then (if 0 ≤ b then (if (bt a b) < 97 then (some false) else (if (bt a b) > 122 then (some false) else (spec_KeyValid.l0L a (wrap64 (b + 1))))) else (none)) else (some true) := by
  refine lU (spec_KeyValid.l0L_is a b) (LimIs.step1 (by simp only [spec_KeyValid.l0]) ?_)
  simp only [spec_KeyValid.l0]
  repeat' with_reducible first | exact lK _ | exact spec_KeyValid.l0L_is .. | apply lI | apply lB | intro _
theorem spec_KeyValid.fL_eq (a0 : ByteArray) : spec_KeyValid.fL a0 = (spec_l1In.f (a0.size : Int) 1 4).bind fun t126 => (if t126 = true then (spec_KeyValid.l0L a0 0) else (some false)) := by
  refine lU (spec_KeyValid.fL_is a0) ?_
  unfold spec_KeyValid.f
  repeat' with_reducible first | exact lK _ | exact spec_KeyValid.l0L_is .. | apply lI | apply lB | intro _
/-! ### spec_PairsValid -/
section
variable (a : List (S29)) (b : Int)
noncomputable def spec_PairsValid.l0L : Option (Bool) := Lim (spec_PairsValid.l0 · a b)
theorem spec_PairsValid.l0L_is : LimIs (spec_PairsValid.l0 · a b) (spec_PairsValid.l0L a b) := lM (fun k => (spec_PairsValid.mono_l k) a b)
end
section
variable (l0 : List (S29))
noncomputable def spec_PairsValid.fL : Option (Bool) := Lim (spec_PairsValid.f · l0)
theorem spec_PairsValid.fL_is : LimIs (spec_PairsValid.f · l0) (spec_PairsValid.fL l0) := lM (fun k => spec_PairsValid.mono l0 k)
end
theorem spec_PairsValid.l0L_eq (a : List (S29)) (b : Int) : spec_PairsValid.l0L a b = if b < (a.length : Int) then (if 0 ≤ b then ((spec_KeyValid.fL ((rd_T29 a b).f0)).bind fun t128 => (if t128 = true then ((spec_l1In.f ((rd_T29 a b).f1) 0 999).bind fun t130 => (if t130 = true then (if b > 0 then (if 0 ≤ (wrap64 (b - 1)) then (if (wrap64 (b - 1)) < (a.length : Int) then (if ((Op.bytesLess (((rd_T29 a (wrap64 (b - 1))).f0).toList) (((rd_T29 a b).f0).toList)) = true) then (spec_PairsValid.l0L a (wrap64 (b + 1))) else (some false)) else (none)) else (none)) else (spec_PairsValid.l0L a (wrap64 (b + 1)))) else (some false))) else (some false))) else (none)) else (some true) := by
  refine lU (spec_PairsValid.l0L_is a b) (LimIs.step1 (by simp only [spec_PairsValid.l0]) ?_)
  simp only [spec_PairsValid.l0]
  repeat' with_reducible first | exact lK _ | exact spec_KeyValid.fL_is .. | exact spec_PairsValid.l0L_is .. | apply lI | apply lB | intro _
theorem spec_PairsValid.fL_eq (l0 : List (S29)) : spec_PairsValid.fL l0 = if (l0.length : Int) > 48 then (some false) else (spec_PairsValid.l0L l0 0) := by
  refine lU (spec_PairsValid.fL_is l0) ?_
  unfold spec_PairsValid.f
  repeat' with_reducible first | exact lK _ | exact spec_PairsValid.l0L_is .. | apply lI | apply lB | intro _
/-! ### spec_l4Place -/
section
variable (a : List (S29)) (b : ByteArray) (c : Int)
noncomputable def spec_l4Place.l0L : Option (Int) := Lim (spec_l4Place.l0 · a b c)
theorem spec_l4Place.l0L_is : LimIs (spec_l4Place.l0 · a b c) (spec_l4Place.l0L a b c) := lM (fun k => (spec_l4Place.mono_l k) a b c)
end
section
variable (l0 : List (S29)) (a1 : ByteArray)
noncomputable def spec_l4Place.fL : Option (Int) := Lim (spec_l4Place.f · l0 a1)
theorem spec_l4Place.fL_is : LimIs (spec_l4Place.f · l0 a1) (spec_l4Place.fL l0 a1) := lM (fun k => spec_l4Place.mono l0 a1 k)
end
theorem spec_l4Place.l0L_eq (a : List (S29)) (b : ByteArray) (c : Int) : spec_l4Place.l0L a b c = if c < (a.length : Int) then (if 0 ≤ c then (if (Op.bytesLess (((rd_T29 a c).f0).toList) b.toList) = true then (spec_l4Place.l0L a b (wrap64 (c + 1))) else (some c)) else (none)) else (some c) := by
  refine lU (spec_l4Place.l0L_is a b c) (LimIs.step1 (by simp only [spec_l4Place.l0]) ?_)
  simp only [spec_l4Place.l0]
  repeat' with_reducible first | exact lK _ | exact spec_l4Place.l0L_is .. | apply lI | apply lB | intro _
theorem spec_l4Place.fL_eq (l0 : List (S29)) (a1 : ByteArray) : spec_l4Place.fL l0 a1 = spec_l4Place.l0L l0 a1 0 := by
  refine lU (spec_l4Place.fL_is l0 a1) ?_
  unfold spec_l4Place.f
  repeat' with_reducible first | exact lK _ | exact spec_l4Place.l0L_is .. | apply lI | apply lB | intro _
/-! ### spec_PairPut -/
section
variable (a : List (S29)) (b : ByteArray) (c : Int) (d : List (S29)) (e : Bool)
noncomputable def spec_PairPut.j0L : Option ((List (S29)) × Bool) := Lim (spec_PairPut.j0 · a b c d e)
theorem spec_PairPut.j0L_is : LimIs (spec_PairPut.j0 · a b c d e) (spec_PairPut.j0L a b c d e) := lM (fun k => (spec_PairPut.mono_l k).1 a b c d e)
end
section
variable (a : List (S29)) (b : ByteArray) (c : Int) (d : List (S29)) (e : Int) (f : Bool)
noncomputable def spec_PairPut.j1L : Option ((List (S29)) × Bool) := Lim (spec_PairPut.j1 · a b c d e f)
theorem spec_PairPut.j1L_is : LimIs (spec_PairPut.j1 · a b c d e f) (spec_PairPut.j1L a b c d e f) := lM (fun k => (spec_PairPut.mono_l k).2 a b c d e f)
end
section
variable (l0 : List (S29)) (a1 : ByteArray) (a2 : Int)
noncomputable def spec_PairPut.fL : Option ((List (S29)) × Bool) := Lim (spec_PairPut.f · l0 a1 a2)
theorem spec_PairPut.fL_is : LimIs (spec_PairPut.f · l0 a1 a2) (spec_PairPut.fL l0 a1 a2) := lM (fun k => spec_PairPut.mono l0 a1 a2 k)
end
theorem spec_PairPut.j0L_eq (a : List (S29)) (b : ByteArray) (c : Int) (d : List (S29)) (e : Bool) : spec_PairPut.j0L a b c d e = if e = true then (some (d, false)) else ((spec_l4Place.fL a b).bind fun t140 => (if t140 < (a.length : Int) then (if 0 ≤ t140 then (spec_PairPut.j1L a b c d t140 (((rd_T29 a t140).f0).toList == b.toList)) else (none)) else (spec_PairPut.j1L a b c d t140 false))) := by
  refine lU (spec_PairPut.j0L_is a b c d e) (LimIs.step1 (by simp only [spec_PairPut.j0]) ?_)
  simp only [spec_PairPut.j0]
  repeat' with_reducible first | exact lK _ | exact spec_PairPut.j1L_is .. | exact spec_l4Place.fL_is .. | apply lI | apply lB | intro _
theorem spec_PairPut.j1L_eq (a : List (S29)) (b : ByteArray) (c : Int) (d : List (S29)) (e : Int) (f : Bool) : spec_PairPut.j1L a b c d e f = if f = true then (if d.length + a.length < 5864062014805 then ((some (d ++ a : List (S29))).bind fun y142 => (if 0 ≤ e then (if e < (y142.length : Int) then (some ((y142.set (e : Int).toNat (⟨(rd_T29 y142 e).f0, c⟩ : S29)), true)) else (none)) else (none))) else (none)) else (if (a.length : Int) ≥ 48 then (if d.length + a.length < 5864062014805 then (some ((d ++ a), false)) else (none)) else (if 0 ≤ e then (if e ≤ (a.length : Int) then ((some (a.take (e : Int).toNat : List (S29))).bind fun y149 => (if d.length + y149.length < 5864062014805 then ((some (d ++ y149 : List (S29))).bind fun y153 => (if y153.length < 5864062014805 then ((some (y153 ++ [(⟨b, c⟩ : S29)] : List (S29))).bind fun y156 => ((some (a.drop (e : Int).toNat : List (S29))).bind fun y159 => (if y156.length + y159.length < 5864062014805 then (some ((y156 ++ y159), true)) else (none)))) else (none))) else (none))) else (none)) else (none))) := by
  refine lU (spec_PairPut.j1L_is a b c d e f) (LimIs.step1 (by simp only [spec_PairPut.j1]) ?_)
  simp only [spec_PairPut.j1]
  repeat' with_reducible first | exact lK _ | apply lI | apply lB | intro _
theorem spec_PairPut.fL_eq (l0 : List (S29)) (a1 : ByteArray) (a2 : Int) : spec_PairPut.fL l0 a1 a2 = (some (([] : List (S29)) : List (S29))).bind fun y134 => ((spec_PairsValid.fL l0).bind fun t137 => (if t137 = true then ((spec_KeyValid.fL a1).bind fun t138 => (if t138 = true then ((spec_l1In.f a2 0 999).bind fun t139 => (spec_PairPut.j0L l0 a1 a2 y134 (!t139))) else (spec_PairPut.j0L l0 a1 a2 y134 true))) else (spec_PairPut.j0L l0 a1 a2 y134 true))) := by
  refine lU (spec_PairPut.fL_is l0 a1 a2) ?_
  unfold spec_PairPut.f
  repeat' with_reducible first | exact lK _ | exact spec_KeyValid.fL_is .. | exact spec_PairPut.j0L_is .. | exact spec_PairsValid.fL_is .. | apply lI | apply lB | intro _
/-! ### spec_l20Rd_odd -/
section
variable (s0_0 : List Int) (s0_1 a1 : Int)
noncomputable def spec_l20Rd_odd.fL : Option (Bool × Int) := Lim (spec_l20Rd_odd.f · s0_0 s0_1 a1)
theorem spec_l20Rd_odd.fL_is : LimIs (spec_l20Rd_odd.f · s0_0 s0_1 a1) (spec_l20Rd_odd.fL s0_0 s0_1 a1) := lM (fun k => spec_l20Rd_odd.mono s0_0 s0_1 a1 k)
end
theorem spec_l20Rd_odd.fL_eq (s0_0 : List Int) (s0_1 a1 : Int) : spec_l20Rd_odd.fL s0_0 s0_1 a1 = if a1 > 0 then ((spec_l20Rd_pick.fL s0_0 s0_1 a1).bind fun bt166 => (some ((bt166.1 == (wrap64 (a1 - 1))), bt166.2))) else (some (false, s0_1)) := by
  refine lU (spec_l20Rd_odd.fL_is s0_0 s0_1 a1) ?_
  unfold spec_l20Rd_odd.f
  repeat' with_reducible first | exact lK _ | exact spec_l20Rd_pick.fL_is .. | apply lI | apply lB | intro _
/-! ### spec_l20Key -/
section
variable (a : ByteArray) (b : Int) (c : List Int) (d : Int)
noncomputable def spec_l20Key.l0L : Option (ByteArray × Int) := Lim (spec_l20Key.l0 · a b c d)
theorem spec_l20Key.l0L_is : LimIs (spec_l20Key.l0 · a b c d) (spec_l20Key.l0L a b c d) := lM (fun k => (spec_l20Key.mono_l k) a b c d)
end
section
variable (s0_0 : List Int) (s0_1 a1 : Int)
noncomputable def spec_l20Key.fL : Option (ByteArray × Int) := Lim (spec_l20Key.f · s0_0 s0_1 a1)
theorem spec_l20Key.fL_is : LimIs (spec_l20Key.f · s0_0 s0_1 a1) (spec_l20Key.fL s0_0 s0_1 a1) := lM (fun k => spec_l20Key.mono s0_0 s0_1 a1 k)
end
theorem spec_l20Key.l0L_eq (a : ByteArray) (b : Int) (c : List Int) (d : Int) : spec_l20Key.l0L a b c d = if b > 0 then ((spec_l20Rd_pick.fL c d 4).bind fun bt186 => ((some (([(wrap64 (97 + bt186.1)) % 256] : List Int) : List Int)).bind fun y188 => (if a.size + (strOfNums y188).size ≤ 9223372036854775807 then (spec_l20Key.l0L (a ++ (strOfNums y188)) (wrap64 (b - 1)) c bt186.2) else (none)))) else (some (a, d)) := by
  refine lU (spec_l20Key.l0L_is a b c d) (LimIs.step1 (by simp only [spec_l20Key.l0]) ?_)
  simp only [spec_l20Key.l0]
  repeat' with_reducible first | exact lK _ | exact spec_l20Key.l0L_is .. | exact spec_l20Rd_pick.fL_is .. | apply lI | apply lB | intro _
theorem spec_l20Key.fL_eq (s0_0 : List Int) (s0_1 a1 : Int) : spec_l20Key.fL s0_0 s0_1 a1 = (spec_l20Rd_odd.fL s0_0 s0_1 a1).bind fun bt168 => (if bt168.1 = true then ((some (([(⟨#[]⟩ : ByteArray), (⟨#[65]⟩ : ByteArray), (⟨#[97, 49]⟩ : ByteArray), (⟨#[97, 98, 99, 100, 101]⟩ : ByteArray), (⟨#[98, 123]⟩ : ByteArray), (⟨#[97, 32, 98]⟩ : ByteArray)] : List ByteArray) : List ByteArray)).bind fun y170 => ((spec_l20Rd_pick.fL s0_0 bt168.2 6).bind fun bt173 => (if 0 ≤ bt173.1 then (if bt173.1 < (y170.length : Int) then (some (rdOf ByteArray.empty y170 bt173.1, bt173.2)) else (none)) else (none)))) else ((spec_l20Rd_pick.fL s0_0 bt168.2 12).bind fun bt176 => (if bt176.1 = 11 then ((some (([(⟨#[122, 122, 122, 122]⟩ : ByteArray), (⟨#[122, 122, 122]⟩ : ByteArray), (⟨#[97, 122, 122, 122]⟩ : ByteArray), (⟨#[122]⟩ : ByteArray), (⟨#[97, 97, 97, 97]⟩ : ByteArray)] : List ByteArray) : List ByteArray)).bind fun y178 => ((spec_l20Rd_pick.fL s0_0 bt176.2 5).bind fun bt181 => (if 0 ≤ bt181.1 then (if bt181.1 < (y178.length : Int) then (some (rdOf ByteArray.empty y178 bt181.1, bt181.2)) else (none)) else (none)))) else ((spec_l20Rd_pick.fL s0_0 bt176.2 2).bind fun bt184 => (spec_l20Key.l0L (⟨#[]⟩ : ByteArray) (wrap64 (1 + bt184.1)) s0_0 bt184.2))))) := by
  refine lU (spec_l20Key.fL_is s0_0 s0_1 a1) ?_
  unfold spec_l20Key.f
  repeat' with_reducible first | exact lK _ | exact spec_l20Key.l0L_is .. | exact spec_l20Rd_odd.fL_is .. | exact spec_l20Rd_pick.fL_is .. | apply lI | apply lB | intro _
/-! ### spec_l20Value -/
section
variable (s0_0 : List Int) (s0_1 a1 : Int)
noncomputable def spec_l20Value.fL : Option (Int × Int) := Lim (spec_l20Value.f · s0_0 s0_1 a1)
theorem spec_l20Value.fL_is : LimIs (spec_l20Value.f · s0_0 s0_1 a1) (spec_l20Value.fL s0_0 s0_1 a1) := lM (fun k => spec_l20Value.mono s0_0 s0_1 a1 k)
end
theorem spec_l20Value.fL_eq (s0_0 : List Int) (s0_1 a1 : Int) : spec_l20Value.fL s0_0 s0_1 a1 = (spec_l20Rd_odd.fL s0_0 s0_1 a1).bind fun bt191 => (if bt191.1 = true then ((some (([(-1), 1000] : List Int) : List Int)).bind fun y193 => ((spec_l20Rd_pick.fL s0_0 bt191.2 2).bind fun bt196 => (if 0 ≤ bt196.1 then (if bt196.1 < (y193.length : Int) then (some (rd y193 bt196.1, bt196.2)) else (none)) else (none)))) else ((spec_l20Rd_pick.fL s0_0 bt191.2 20).bind fun bt199 => ((some (([bt199.1, 999] : List Int) : List Int)).bind fun y201 => ((spec_l20Rd_pick.fL s0_0 bt199.2 9).bind fun bt204 => (if 0 ≤ (wrap64 (Int.tdiv bt204.1 8)) then (if (wrap64 (Int.tdiv bt204.1 8)) < (y201.length : Int) then (some (rd y201 (wrap64 (Int.tdiv bt204.1 8)), bt204.2)) else (none)) else (none)))))) := by
  refine lU (spec_l20Value.fL_is s0_0 s0_1 a1) ?_
  unfold spec_l20Value.f
  repeat' with_reducible first | exact lK _ | exact spec_l20Rd_odd.fL_is .. | exact spec_l20Rd_pick.fL_is .. | apply lI | apply lB | intro _
/-! ### spec_KeyAt -/
section
variable (a : Int) (b : ByteArray) (c : Int)
noncomputable def spec_KeyAt.l0L : Option (ByteArray) := Lim (spec_KeyAt.l0 · a b c)
theorem spec_KeyAt.l0L_is : LimIs (spec_KeyAt.l0 · a b c) (spec_KeyAt.l0L a b c) := lM (fun k => (spec_KeyAt.mono_l k) a b c)
end
section
variable (a0 : Int)
noncomputable def spec_KeyAt.fL : Option (ByteArray) := Lim (spec_KeyAt.f · a0)
theorem spec_KeyAt.fL_is : LimIs (spec_KeyAt.f · a0) (spec_KeyAt.fL a0) := lM (fun k => spec_KeyAt.mono a0 k)
end
theorem spec_KeyAt.l0L_eq (a : Int) (b : ByteArray) (c : Int) : spec_KeyAt.l0L a b c = if c < 4 then ((spec_l1Weight.f c).bind fun t208 => (if t208 = 0 then (none) else ((some (([(wrap64 (97 + (wrap64 (Int.tdiv a t208)))) % 256] : List Int) : List Int)).bind fun y209 => (if b.size + (strOfNums y209).size ≤ 9223372036854775807 then ((spec_l1Weight.f c).bind fun t212 => (if t212 = 0 then (none) else (if (Int.tmod a t212) = 0 then (some (b ++ (strOfNums y209))) else (spec_KeyAt.l0L (wrap64 ((Int.tmod a t212) - 1)) (b ++ (strOfNums y209)) (wrap64 (c + 1)))))) else (none))))) else (some b) := by
  refine lU (spec_KeyAt.l0L_is a b c) (LimIs.step1 (by simp only [spec_KeyAt.l0]) ?_)
  simp only [spec_KeyAt.l0]
  repeat' with_reducible first | exact lK _ | exact spec_KeyAt.l0L_is .. | apply lI | apply lB | intro _
theorem spec_KeyAt.fL_eq (a0 : Int) : spec_KeyAt.fL a0 = (spec_l1In.f a0 0 475253).bind fun t207 => (if t207 = true then (spec_KeyAt.l0L a0 (⟨#[]⟩ : ByteArray) 0) else (some (⟨#[]⟩ : ByteArray))) := by
  refine lU (spec_KeyAt.fL_is a0) ?_
  unfold spec_KeyAt.f
  repeat' with_reducible first | exact lK _ | exact spec_KeyAt.l0L_is .. | apply lI | apply lB | intro _
/-! ### spec_l20Pairs -/
section
variable (a : Int) (b : List (S29)) (c : Int) (d : List Int) (e : Int)
noncomputable def spec_l20Pairs.l0L : Option ((List (S29)) × Int) := Lim (spec_l20Pairs.l0 · a b c d e)
theorem spec_l20Pairs.l0L_is : LimIs (spec_l20Pairs.l0 · a b c d e) (spec_l20Pairs.l0L a b c d e) := lM (fun k => (spec_l20Pairs.mono_l k).1 a b c d e)
end
section
variable (a : Int) (b : List (S29)) (c : List Int) (d : Int)
noncomputable def spec_l20Pairs.j3L : Option ((List (S29)) × Int) := Lim (spec_l20Pairs.j3 · a b c d)
theorem spec_l20Pairs.j3L_is : LimIs (spec_l20Pairs.j3 · a b c d) (spec_l20Pairs.j3L a b c d) := lM (fun k => (spec_l20Pairs.mono_l k).2.1 a b c d)
end
section
variable (a : Int) (b : List (S29)) (c : Int) (d : List Int) (e : Int)
noncomputable def spec_l20Pairs.l1L : Option ((List (S29)) × Int) := Lim (spec_l20Pairs.l1 · a b c d e)
theorem spec_l20Pairs.l1L_is : LimIs (spec_l20Pairs.l1 · a b c d e) (spec_l20Pairs.l1L a b c d e) := lM (fun k => (spec_l20Pairs.mono_l k).2.2.1 a b c d e)
end
section
variable (a : Int) (b : List (S29)) (c : Int) (d : Bool) (e : List Int) (g : Int)
noncomputable def spec_l20Pairs.j2L : Option ((List (S29)) × Int) := Lim (spec_l20Pairs.j2 · a b c d e g)
theorem spec_l20Pairs.j2L_is : LimIs (spec_l20Pairs.j2 · a b c d e g) (spec_l20Pairs.j2L a b c d e g) := lM (fun k => (spec_l20Pairs.mono_l k).2.2.2 a b c d e g)
end
section
variable (s0_0 : List Int) (s0_1 a1 : Int)
noncomputable def spec_l20Pairs.fL : Option ((List (S29)) × Int) := Lim (spec_l20Pairs.f · s0_0 s0_1 a1)
theorem spec_l20Pairs.fL_is : LimIs (spec_l20Pairs.f · s0_0 s0_1 a1) (spec_l20Pairs.fL s0_0 s0_1 a1) := lM (fun k => spec_l20Pairs.mono s0_0 s0_1 a1 k)
end
theorem spec_l20Pairs.l0L_eq (a : Int) (b : List (S29)) (c : Int) (d : List Int) (e : Int) : spec_l20Pairs.l0L a b c d e = if c > 0 then ((spec_l20Key.fL d e 0).bind fun bt218 => ((spec_l20Value.fL d bt218.2 0).bind fun bt220 => ((spec_PairPut.fL b bt218.1 bt220.1).bind fun bt222 => (spec_l20Pairs.l0L a bt222.1 (wrap64 (c - 1)) d bt220.2)))) else ((spec_l20Rd_pick.fL d e 16).bind fun bt226 => (if bt226.1 = 15 then (spec_l20Pairs.l1L a b 0 d bt226.2) else (spec_l20Pairs.j3L a b d bt226.2))) := by
  refine lU (spec_l20Pairs.l0L_is a b c d e) (LimIs.step1 (by simp only [spec_l20Pairs.l0]) ?_)
  simp only [spec_l20Pairs.l0]
  repeat' with_reducible first | exact lK _ | exact spec_PairPut.fL_is .. | exact spec_l20Key.fL_is .. | exact spec_l20Pairs.j3L_is .. | exact spec_l20Pairs.l0L_is .. | exact spec_l20Pairs.l1L_is .. | exact spec_l20Rd_pick.fL_is .. | exact spec_l20Value.fL_is .. | apply lI | apply lB | intro _
theorem spec_l20Pairs.j3L_eq (a : Int) (b : List (S29)) (c : List Int) (d : Int) : spec_l20Pairs.j3L a b c d = (spec_l20Rd_odd.fL c d a).bind fun bt233 => (if bt233.1 = true then ((some (([(⟨(⟨#[]⟩ : ByteArray), 0⟩ : S29), (⟨(⟨#[122, 122, 122, 122]⟩ : ByteArray), (-1)⟩ : S29), (⟨(⟨#[122, 122, 122, 122]⟩ : ByteArray), 1000⟩ : S29), (⟨(⟨#[97]⟩ : ByteArray), 1⟩ : S29), (⟨(⟨#[65]⟩ : ByteArray), 0⟩ : S29)] : List (S29)) : List (S29))).bind fun y235 => ((spec_l20Rd_pick.fL c bt233.2 5).bind fun bt238 => (if 0 ≤ bt238.1 then (if bt238.1 < (y235.length : Int) then (if b.length < 5864062014805 then (some ((b ++ [(⟨(rd_T29 y235 bt238.1).f0, (rd_T29 y235 bt238.1).f1⟩ : S29)]), bt238.2)) else (none)) else (none)) else (none)))) else (some (b, bt233.2))) := by
  refine lU (spec_l20Pairs.j3L_is a b c d) (LimIs.step1 (by simp only [spec_l20Pairs.j3]) ?_)
  simp only [spec_l20Pairs.j3]
  repeat' with_reducible first | exact lK _ | exact spec_l20Rd_odd.fL_is .. | exact spec_l20Rd_pick.fL_is .. | apply lI | apply lB | intro _
theorem spec_l20Pairs.l1L_eq (a : Int) (b : List (S29)) (c : Int) (d : List Int) (e : Int) : spec_l20Pairs.l1L a b c d e = if (b.length : Int) < 48 then (spec_l20Pairs.j2L a b c (decide (c < 200)) d e) else (spec_l20Pairs.j2L a b c false d e) := by
  refine lU (spec_l20Pairs.l1L_is a b c d e) (LimIs.step1 (by simp only [spec_l20Pairs.l1]) ?_)
  simp only [spec_l20Pairs.l1]
  repeat' with_reducible first | exact lK _ | exact spec_l20Pairs.j2L_is .. | apply lI | apply lB | intro _
theorem spec_l20Pairs.j2L_eq (a : Int) (b : List (S29)) (c : Int) (d : Bool) (e : List Int) (g : Int) : spec_l20Pairs.j2L a b c d e g = if d = true then ((spec_KeyAt.fL (wrap64 (c * 9))).bind fun t228 => ((spec_PairPut.fL b t228 c).bind fun bt229 => (spec_l20Pairs.l1L a bt229.1 (wrap64 (c + 1)) e g))) else (spec_l20Pairs.j3L a b e g) := by
  refine lU (spec_l20Pairs.j2L_is a b c d e g) (LimIs.step1 (by simp only [spec_l20Pairs.j2]) ?_)
  simp only [spec_l20Pairs.j2]
  repeat' with_reducible first | exact lK _ | exact spec_KeyAt.fL_is .. | exact spec_PairPut.fL_is .. | exact spec_l20Pairs.j3L_is .. | exact spec_l20Pairs.l1L_is .. | apply lI | apply lB | intro _
theorem spec_l20Pairs.fL_eq (s0_0 : List Int) (s0_1 a1 : Int) : spec_l20Pairs.fL s0_0 s0_1 a1 = (spec_l20Rd_pick.fL s0_0 s0_1 9).bind fun bt216 => (spec_l20Pairs.l0L a1 (([] : List (S29))) bt216.1 s0_0 bt216.2) := by
  refine lU (spec_l20Pairs.fL_is s0_0 s0_1 a1) ?_
  unfold spec_l20Pairs.f
  repeat' with_reducible first | exact lK _ | exact spec_l20Pairs.l0L_is .. | exact spec_l20Rd_pick.fL_is .. | apply lI | apply lB | intro _
/-! ### spec_SessionsValid -/
section
variable (a : List (S180)) (b : Int)
noncomputable def spec_SessionsValid.l0L : Option (Bool) := Lim (spec_SessionsValid.l0 · a b)
theorem spec_SessionsValid.l0L_is : LimIs (spec_SessionsValid.l0 · a b) (spec_SessionsValid.l0L a b) := lM (fun k => (spec_SessionsValid.mono_l k) a b)
end
section
variable (l0 : List (S180))
noncomputable def spec_SessionsValid.fL : Option (Bool) := Lim (spec_SessionsValid.f · l0)
theorem spec_SessionsValid.fL_is : LimIs (spec_SessionsValid.f · l0) (spec_SessionsValid.fL l0) := lM (fun k => spec_SessionsValid.mono l0 k)
end
theorem spec_SessionsValid.l0L_eq (a : List (S180)) (b : Int) : spec_SessionsValid.l0L a b = if b < (a.length : Int) then (if 0 ≤ b then ((spec_l1In.f ((rd_T180 a b).f0) 0 3).bind fun t246 => (if t246 = true then ((spec_l1In.f ((rd_T180 a b).f1) 1 999).bind fun t247 => (if t247 = true then ((spec_l1In.f ((rd_T180 a b).f2) (-2) 999).bind fun t248 => (if t248 = true then (if b > 0 then (if 0 ≤ (wrap64 (b - 1)) then (if (wrap64 (b - 1)) < (a.length : Int) then (if ((rd_T180 a b).f0) ≤ ((rd_T180 a (wrap64 (b - 1))).f0) then (some false) else (spec_SessionsValid.l0L a (wrap64 (b + 1)))) else (none)) else (none)) else (spec_SessionsValid.l0L a (wrap64 (b + 1)))) else (some false))) else (some false))) else (some false))) else (none)) else (some true) := by
  refine lU (spec_SessionsValid.l0L_is a b) (LimIs.step1 (by simp only [spec_SessionsValid.l0]) ?_)
  simp only [spec_SessionsValid.l0]
  repeat' with_reducible first | exact lK _ | exact spec_SessionsValid.l0L_is .. | apply lI | apply lB | intro _
theorem spec_SessionsValid.fL_eq (l0 : List (S180)) : spec_SessionsValid.fL l0 = spec_SessionsValid.l0L l0 0 := by
  refine lU (spec_SessionsValid.fL_is l0) ?_
  unfold spec_SessionsValid.f
  repeat' with_reducible first | exact lK _ | exact spec_SessionsValid.l0L_is .. | apply lI | apply lB | intro _
/-! ### spec_l9Find -/
section
variable (a : List (S180)) (b c : Int)
noncomputable def spec_l9Find.l0L : Option (Int × Int × Int) := Lim (spec_l9Find.l0 · a b c)
theorem spec_l9Find.l0L_is : LimIs (spec_l9Find.l0 · a b c) (spec_l9Find.l0L a b c) := lM (fun k => (spec_l9Find.mono_l k) a b c)
end
section
variable (l0 : List (S180)) (a1 : Int)
noncomputable def spec_l9Find.fL : Option (Int × Int × Int) := Lim (spec_l9Find.f · l0 a1)
theorem spec_l9Find.fL_is : LimIs (spec_l9Find.f · l0 a1) (spec_l9Find.fL l0 a1) := lM (fun k => spec_l9Find.mono l0 a1 k)
end
theorem spec_l9Find.l0L_eq (a : List (S180)) (b c : Int) : spec_l9Find.l0L a b c = if c < (a.length : Int) then (if 0 ≤ c then (if ((rd_T180 a c).f0) = b then (some ((rd_T180 a c).f0, (rd_T180 a c).f1, (rd_T180 a c).f2)) else (spec_l9Find.l0L a b (wrap64 (c + 1)))) else (none)) else (some (0, 0, 0)) := by
  refine lU (spec_l9Find.l0L_is a b c) (LimIs.step1 (by simp only [spec_l9Find.l0]) ?_)
  simp only [spec_l9Find.l0]
  repeat' with_reducible first | exact lK _ | exact spec_l9Find.l0L_is .. | apply lI | apply lB | intro _
theorem spec_l9Find.fL_eq (l0 : List (S180)) (a1 : Int) : spec_l9Find.fL l0 a1 = spec_l9Find.l0L l0 a1 0 := by
  refine lU (spec_l9Find.fL_is l0 a1) ?_
  unfold spec_l9Find.f
  repeat' with_reducible first | exact lK _ | exact spec_l9Find.l0L_is .. | apply lI | apply lB | intro _
/-! ### spec_SessionSeq -/
section
variable (l0 : List (S180)) (a1 : Int)
noncomputable def spec_SessionSeq.fL : Option (Int) := Lim (spec_SessionSeq.f · l0 a1)
theorem spec_SessionSeq.fL_is : LimIs (spec_SessionSeq.f · l0 a1) (spec_SessionSeq.fL l0 a1) := lM (fun k => spec_SessionSeq.mono l0 a1 k)
end
theorem spec_SessionSeq.fL_eq (l0 : List (S180)) (a1 : Int) : spec_SessionSeq.fL l0 a1 = (spec_SessionsValid.fL l0).bind fun t253 => (if t253 = true then ((spec_l1In.f a1 0 3).bind fun t254 => (if t254 = true then ((spec_l9Find.fL l0 a1).bind fun bt255 => (some bt255.2.1)) else (some (-1)))) else (some (-1))) := by
  refine lU (spec_SessionSeq.fL_is l0 a1) ?_
  unfold spec_SessionSeq.f
  repeat' with_reducible first | exact lK _ | exact spec_SessionsValid.fL_is .. | exact spec_l9Find.fL_is .. | apply lI | apply lB | intro _
/-! ### spec_SessionPut -/
section
variable (a b : List (S180)) (c : Bool) (d e g : Int)
noncomputable def spec_SessionPut.j0L : Option ((List (S180)) × Bool) := Lim (spec_SessionPut.j0 · a b c d e g)
theorem spec_SessionPut.j0L_is : LimIs (spec_SessionPut.j0 · a b c d e g) (spec_SessionPut.j0L a b c d e g) := lM (fun k => (spec_SessionPut.mono_l k).1 a b c d e g)
end
section
variable (a b : List (S180)) (c : Bool) (d e f g : Int)
noncomputable def spec_SessionPut.l0L : Option ((List (S180)) × Bool) := Lim (spec_SessionPut.l0 · a b c d e f g)
theorem spec_SessionPut.l0L_is : LimIs (spec_SessionPut.l0 · a b c d e f g) (spec_SessionPut.l0L a b c d e f g) := lM (fun k => (spec_SessionPut.mono_l k).2.1 a b c d e f g)
end
section
variable (a b : List (S180)) (c : Bool) (d : Int) (e : Bool) (f g i : Int)
noncomputable def spec_SessionPut.j2L : Option ((List (S180)) × Bool) := Lim (spec_SessionPut.j2 · a b c d e f g i)
theorem spec_SessionPut.j2L_is : LimIs (spec_SessionPut.j2 · a b c d e f g i) (spec_SessionPut.j2L a b c d e f g i) := lM (fun k => (spec_SessionPut.mono_l k).2.2 a b c d e f g i)
end
section
variable (l0 : List (S180)) (a1_0 a1_1 a1_2 : Int)
noncomputable def spec_SessionPut.fL : Option ((List (S180)) × Bool) := Lim (spec_SessionPut.f · l0 a1_0 a1_1 a1_2)
theorem spec_SessionPut.fL_is : LimIs (spec_SessionPut.f · l0 a1_0 a1_1 a1_2) (spec_SessionPut.fL l0 a1_0 a1_1 a1_2) := lM (fun k => spec_SessionPut.mono l0 a1_0 a1_1 a1_2 k)
end
theorem spec_SessionPut.j0L_eq (a b : List (S180)) (c : Bool) (d e g : Int) : spec_SessionPut.j0L a b c d e g = if c = true then (some (b, false)) else ((spec_SessionSeq.fL a d).bind fun t267 => (if t267 ≥ e then (if b.length + a.length < 5864062014805 then (some ((b ++ a), false)) else (none)) else (spec_SessionPut.l0L a b false 0 d e g))) := by
  refine lU (spec_SessionPut.j0L_is a b c d e g) (LimIs.step1 (by simp only [spec_SessionPut.j0]) ?_)
  simp only [spec_SessionPut.j0]
  repeat' with_reducible first | exact lK _ | exact spec_SessionPut.l0L_is .. | exact spec_SessionSeq.fL_is .. | apply lI | apply lB | intro _
theorem spec_SessionPut.l0L_eq (a b : List (S180)) (c : Bool) (d e f g : Int) : spec_SessionPut.l0L a b c d e f g = if d < (a.length : Int) then (if c = true then (spec_SessionPut.j2L a b c d false e f g) else (if 0 ≤ d then (spec_SessionPut.j2L a b c d (decide (((rd_T180 a d).f0) ≥ e)) e f g) else (none))) else (if c = true then (some (b, true)) else (if b.length < 5864062014805 then (some ((b ++ [(⟨e, f, g⟩ : S180)]), true)) else (none))) := by
  refine lU (spec_SessionPut.l0L_is a b c d e f g) (LimIs.step1 (by simp only [spec_SessionPut.l0]) ?_)
  simp only [spec_SessionPut.l0]
  repeat' with_reducible first | exact lK _ | exact spec_SessionPut.j2L_is .. | apply lI | apply lB | intro _
theorem spec_SessionPut.j2L_eq (a b : List (S180)) (c : Bool) (d : Int) (e : Bool) (f g i : Int) : spec_SessionPut.j2L a b c d e f g i = if e = true then (if b.length < 5864062014805 then ((some (b ++ [(⟨f, g, i⟩ : S180)] : List (S180))).bind fun y275 => (if 0 ≤ d then (if d < (a.length : Int) then (if ((rd_T180 a d).f0) = f then (spec_SessionPut.l0L a y275 true (wrap64 (d + 1)) f g i) else (if y275.length < 5864062014805 then (spec_SessionPut.l0L a (y275 ++ [(⟨(rd_T180 a d).f0, (rd_T180 a d).f1, (rd_T180 a d).f2⟩ : S180)]) true (wrap64 (d + 1)) f g i) else (none))) else (none)) else (none))) else (none)) else (if 0 ≤ d then (if d < (a.length : Int) then (if ((rd_T180 a d).f0) = f then (spec_SessionPut.l0L a b c (wrap64 (d + 1)) f g i) else (if b.length < 5864062014805 then (spec_SessionPut.l0L a (b ++ [(⟨(rd_T180 a d).f0, (rd_T180 a d).f1, (rd_T180 a d).f2⟩ : S180)]) c (wrap64 (d + 1)) f g i) else (none))) else (none)) else (none)) := by
  refine lU (spec_SessionPut.j2L_is a b c d e f g i) (LimIs.step1 (by simp only [spec_SessionPut.j2]) ?_)
  simp only [spec_SessionPut.j2]
  repeat' with_reducible first | exact lK _ | exact spec_SessionPut.l0L_is .. | apply lI | apply lB | intro _
theorem spec_SessionPut.fL_eq (l0 : List (S180)) (a1_0 a1_1 a1_2 : Int) : spec_SessionPut.fL l0 a1_0 a1_1 a1_2 = (some (([] : List (S180)) : List (S180))).bind fun y259 => ((spec_SessionsValid.fL l0).bind fun t262 => (if t262 = true then ((spec_SessionsValid.fL (([(⟨a1_0, a1_1, a1_2⟩ : S180)] : List (S180)))).bind fun t266 => (spec_SessionPut.j0L l0 y259 (!t266) a1_0 a1_1 a1_2)) else (spec_SessionPut.j0L l0 y259 true a1_0 a1_1 a1_2))) := by
  refine lU (spec_SessionPut.fL_is l0 a1_0 a1_1 a1_2) ?_
  unfold spec_SessionPut.f
  repeat' with_reducible first | exact lK _ | exact spec_SessionPut.j0L_is .. | exact spec_SessionsValid.fL_is .. | apply lI | apply lB | intro _
/-! ### spec_l20Session -/
section
variable (s0_0 : List Int) (s0_1 a1 : Int)
noncomputable def spec_l20Session.fL : Option (Int × Int × Int × Int) := Lim (spec_l20Session.f · s0_0 s0_1 a1)
theorem spec_l20Session.fL_is : LimIs (spec_l20Session.f · s0_0 s0_1 a1) (spec_l20Session.fL s0_0 s0_1 a1) := lM (fun k => spec_l20Session.mono s0_0 s0_1 a1 k)
end
theorem spec_l20Session.fL_eq (s0_0 : List Int) (s0_1 a1 : Int) : spec_l20Session.fL s0_0 s0_1 a1 = (spec_l20Rd_odd.fL s0_0 s0_1 a1).bind fun bt289 => (if bt289.1 = true then ((some (([(⟨(-1), 1, 0⟩ : S180), (⟨4, 1, 0⟩ : S180), (⟨1, 0, 0⟩ : S180), (⟨1, 1000, 0⟩ : S180), (⟨1, 1, (-3)⟩ : S180), (⟨1, 1, 1000⟩ : S180)] : List (S180)) : List (S180))).bind fun y291 => ((spec_l20Rd_pick.fL s0_0 bt289.2 6).bind fun bt294 => (if 0 ≤ bt294.1 then (if bt294.1 < (y291.length : Int) then (some ((rd_T180 y291 bt294.1).f0, (rd_T180 y291 bt294.1).f1, (rd_T180 y291 bt294.1).f2, bt294.2)) else (none)) else (none)))) else ((spec_l20Rd_pick.fL s0_0 bt289.2 4).bind fun bt297 => ((spec_l20Rd_pick.fL s0_0 bt297.2 6).bind fun bt299 => ((spec_l20Rd_pick.fL s0_0 bt299.2 9).bind fun bt301 => (some (bt297.1, wrap64 (1 + bt299.1), wrap64 (bt301.1 + (-2)), bt301.2)))))) := by
  refine lU (spec_l20Session.fL_is s0_0 s0_1 a1) ?_
  unfold spec_l20Session.f
  repeat' with_reducible first | exact lK _ | exact spec_l20Rd_odd.fL_is .. | exact spec_l20Rd_pick.fL_is .. | apply lI | apply lB | intro _
/-! ### spec_l20Sessions -/
section
variable (a : Int) (b : List (S180)) (c : Int) (d : List Int) (e : Int)
noncomputable def spec_l20Sessions.l0L : Option ((List (S180)) × Int) := Lim (spec_l20Sessions.l0 · a b c d e)
theorem spec_l20Sessions.l0L_is : LimIs (spec_l20Sessions.l0 · a b c d e) (spec_l20Sessions.l0L a b c d e) := lM (fun k => (spec_l20Sessions.mono_l k) a b c d e)
end
section
variable (s0_0 : List Int) (s0_1 a1 : Int)
noncomputable def spec_l20Sessions.fL : Option ((List (S180)) × Int) := Lim (spec_l20Sessions.f · s0_0 s0_1 a1)
theorem spec_l20Sessions.fL_is : LimIs (spec_l20Sessions.f · s0_0 s0_1 a1) (spec_l20Sessions.fL s0_0 s0_1 a1) := lM (fun k => spec_l20Sessions.mono s0_0 s0_1 a1 k)
end
theorem spec_l20Sessions.l0L_eq (a : Int) (b : List (S180)) (c : Int) (d : List Int) (e : Int) : spec_l20Sessions.l0L a b c d e = if c > 0 then ((spec_l20Session.fL d e 0).bind fun bt308 => ((spec_SessionPut.fL b bt308.1 bt308.2.1 bt308.2.2.1).bind fun bt312 => (spec_l20Sessions.l0L a bt312.1 (wrap64 (c - 1)) d bt308.2.2.2))) else ((spec_l20Rd_odd.fL d e a).bind fun bt316 => (if bt316.1 = true then ((spec_l20Rd_pick.fL d bt316.2 2).bind fun bt318 => (if bt318.1 = 0 then (if b.length + b.length < 5864062014805 then (some ((b ++ b), bt318.2)) else (none)) else ((spec_l20Session.fL d bt318.2 1).bind fun bt323 => (if b.length < 5864062014805 then (some ((b ++ [(⟨bt323.1, bt323.2.1, bt323.2.2.1⟩ : S180)]), bt323.2.2.2)) else (none))))) else (some (b, bt316.2)))) := by
  refine lU (spec_l20Sessions.l0L_is a b c d e) (LimIs.step1 (by simp only [spec_l20Sessions.l0]) ?_)
  simp only [spec_l20Sessions.l0]
  repeat' with_reducible first | exact lK _ | exact spec_SessionPut.fL_is .. | exact spec_l20Rd_odd.fL_is .. | exact spec_l20Rd_pick.fL_is .. | exact spec_l20Session.fL_is .. | exact spec_l20Sessions.l0L_is .. | apply lI | apply lB | intro _
theorem spec_l20Sessions.fL_eq (s0_0 : List Int) (s0_1 a1 : Int) : spec_l20Sessions.fL s0_0 s0_1 a1 = (spec_l20Rd_pick.fL s0_0 s0_1 5).bind fun bt306 => (spec_l20Sessions.l0L a1 (([] : List (S180))) bt306.1 s0_0 bt306.2) := by
  refine lU (spec_l20Sessions.fL_is s0_0 s0_1 a1) ?_
  unfold spec_l20Sessions.f
  repeat' with_reducible first | exact lK _ | exact spec_l20Rd_pick.fL_is .. | exact spec_l20Sessions.l0L_is .. | apply lI | apply lB | intro _
/-! ### spec_PairGet -/
section
variable (l0 : List (S29)) (a1 : ByteArray)
noncomputable def spec_PairGet.fL : Option (Int) := Lim (spec_PairGet.f · l0 a1)
theorem spec_PairGet.fL_is : LimIs (spec_PairGet.f · l0 a1) (spec_PairGet.fL l0 a1) := lM (fun k => spec_PairGet.mono l0 a1 k)
end
theorem spec_PairGet.fL_eq (l0 : List (S29)) (a1 : ByteArray) : spec_PairGet.fL l0 a1 = (spec_l4Place.fL l0 a1).bind fun t330 => ((spec_PairsValid.fL l0).bind fun t331 => (if t331 = true then (if t330 = (l0.length : Int) then (some (-1)) else (if 0 ≤ t330 then (if t330 < (l0.length : Int) then (if ((rd_T29 l0 t330).f0).toList = a1.toList then (some ((rd_T29 l0 t330).f1)) else (some (-1))) else (none)) else (none))) else (some (-1)))) := by
  refine lU (spec_PairGet.fL_is l0 a1) ?_
  unfold spec_PairGet.f
  repeat' with_reducible first | exact lK _ | exact spec_PairsValid.fL_is .. | exact spec_l4Place.fL_is .. | apply lI | apply lB | intro _
/-! ### spec_IntervalValid -/
section
variable (a0_0 a0_1 : ByteArray)
noncomputable def spec_IntervalValid.fL : Option (Bool) := Lim (spec_IntervalValid.f · a0_0 a0_1)
theorem spec_IntervalValid.fL_is : LimIs (spec_IntervalValid.f · a0_0 a0_1) (spec_IntervalValid.fL a0_0 a0_1) := lM (fun k => spec_IntervalValid.mono a0_0 a0_1 k)
end
theorem spec_IntervalValid.fL_eq (a0_0 a0_1 : ByteArray) : spec_IntervalValid.fL a0_0 a0_1 = if a0_0.toList = ([] : List UInt8) then (if a0_1.toList = ([] : List UInt8) then (some true) else ((spec_KeyValid.fL a0_1).bind fun t335 => (if t335 = true then (if (Op.bytesLess a0_0.toList a0_1.toList) = true then (some (a0_1.toList != ([97] : List UInt8))) else (some false)) else (some false)))) else ((spec_KeyValid.fL a0_0).bind fun t336 => (if t336 = true then (if a0_1.toList = ([] : List UInt8) then (some true) else ((spec_KeyValid.fL a0_1).bind fun t337 => (if t337 = true then (if (Op.bytesLess a0_0.toList a0_1.toList) = true then (some true) else (some false)) else (some false)))) else (some false))) := by
  refine lU (spec_IntervalValid.fL_is a0_0 a0_1) ?_
  unfold spec_IntervalValid.f
  repeat' with_reducible first | exact lK _ | exact spec_KeyValid.fL_is .. | apply lI | apply lB | intro _
/-! ### spec_IntervalHas -/
section
variable (a0_0 a0_1 a1 : ByteArray)
noncomputable def spec_IntervalHas.fL : Option (Bool) := Lim (spec_IntervalHas.f · a0_0 a0_1 a1)
theorem spec_IntervalHas.fL_is : LimIs (spec_IntervalHas.f · a0_0 a0_1 a1) (spec_IntervalHas.fL a0_0 a0_1 a1) := lM (fun k => spec_IntervalHas.mono a0_0 a0_1 a1 k)
end
theorem spec_IntervalHas.fL_eq (a0_0 a0_1 a1 : ByteArray) : spec_IntervalHas.fL a0_0 a0_1 a1 = (spec_IntervalValid.fL a0_0 a0_1).bind fun t339 => (if t339 = true then ((spec_KeyValid.fL a1).bind fun t340 => (if t340 = true then (if ((Op.bytesLess a1.toList a0_0.toList) = true) then (some false) else (if a0_1.toList = ([] : List UInt8) then (some true) else (some (Op.bytesLess a1.toList a0_1.toList)))) else (some false))) else (some false)) := by
  refine lU (spec_IntervalHas.fL_is a0_0 a0_1 a1) ?_
  unfold spec_IntervalHas.f
  repeat' with_reducible first | exact lK _ | exact spec_IntervalValid.fL_is .. | exact spec_KeyValid.fL_is .. | apply lI | apply lB | intro _
/-! ### spec_IntervalCut -/
section
variable (a0_0 a0_1 a1 : ByteArray)
noncomputable def spec_IntervalCut.fL : Option (ByteArray × ByteArray × ByteArray × ByteArray × Bool) := Lim (spec_IntervalCut.f · a0_0 a0_1 a1)
theorem spec_IntervalCut.fL_is : LimIs (spec_IntervalCut.f · a0_0 a0_1 a1) (spec_IntervalCut.fL a0_0 a0_1 a1) := lM (fun k => spec_IntervalCut.mono a0_0 a0_1 a1 k)
end
theorem spec_IntervalCut.fL_eq (a0_0 a0_1 a1 : ByteArray) : spec_IntervalCut.fL a0_0 a0_1 a1 = (spec_IntervalValid.fL a0_0 a0_1).bind fun t346 => (if t346 = true then ((spec_KeyValid.fL a1).bind fun t347 => (if t347 = true then ((spec_IntervalValid.fL a0_0 a1).bind fun t348 => (if t348 = true then ((spec_IntervalValid.fL a1 a0_1).bind fun t349 => (if t349 = true then (some (a0_0, a1, a1, a0_1, true)) else (some ((⟨#[]⟩ : ByteArray), (⟨#[]⟩ : ByteArray), (⟨#[]⟩ : ByteArray), (⟨#[]⟩ : ByteArray), false)))) else (some ((⟨#[]⟩ : ByteArray), (⟨#[]⟩ : ByteArray), (⟨#[]⟩ : ByteArray), (⟨#[]⟩ : ByteArray), false)))) else (some ((⟨#[]⟩ : ByteArray), (⟨#[]⟩ : ByteArray), (⟨#[]⟩ : ByteArray), (⟨#[]⟩ : ByteArray), false)))) else (some ((⟨#[]⟩ : ByteArray), (⟨#[]⟩ : ByteArray), (⟨#[]⟩ : ByteArray), (⟨#[]⟩ : ByteArray), false))) := by
  refine lU (spec_IntervalCut.fL_is a0_0 a0_1 a1) ?_
  unfold spec_IntervalCut.f
  repeat' with_reducible first | exact lK _ | exact spec_IntervalValid.fL_is .. | exact spec_KeyValid.fL_is .. | apply lI | apply lB | intro _
/-! ### spec_StateValid -/
section
variable (a : Bool) (b c : ByteArray) (d : List (S29)) (e : List (S180)) (f : Bool) (g : ByteArray)
noncomputable def spec_StateValid.j0L : Option (Bool) := Lim (spec_StateValid.j0 · a b c d e f g)
theorem spec_StateValid.j0L_is : LimIs (spec_StateValid.j0 · a b c d e f g) (spec_StateValid.j0L a b c d e f g) := lM (fun k => (spec_StateValid.mono_l k).1 a b c d e f g)
end
section
variable (a : Int) (b c : ByteArray) (d : List (S29)) (e : List (S180)) (g : Bool) (i : ByteArray)
noncomputable def spec_StateValid.l0L : Option (Bool) := Lim (spec_StateValid.l0 · a b c d e g i)
theorem spec_StateValid.l0L_is : LimIs (spec_StateValid.l0 · a b c d e g i) (spec_StateValid.l0L a b c d e g i) := lM (fun k => (spec_StateValid.mono_l k).2 a b c d e g i)
end
section
variable (a0_0 a0_1 : ByteArray) (l0_2 : List (S29)) (l0_3 : List (S180)) (a0_4 : Bool) (a0_5 : ByteArray)
noncomputable def spec_StateValid.fL : Option (Bool) := Lim (spec_StateValid.f · a0_0 a0_1 l0_2 l0_3 a0_4 a0_5)
theorem spec_StateValid.fL_is : LimIs (spec_StateValid.f · a0_0 a0_1 l0_2 l0_3 a0_4 a0_5) (spec_StateValid.fL a0_0 a0_1 l0_2 l0_3 a0_4 a0_5) := lM (fun k => spec_StateValid.mono a0_0 a0_1 l0_2 l0_3 a0_4 a0_5 k)
end
theorem spec_StateValid.j0L_eq (a : Bool) (b c : ByteArray) (d : List (S29)) (e : List (S180)) (f : Bool) (g : ByteArray) : spec_StateValid.j0L a b c d e f g = if a = true then (some false) else (spec_StateValid.l0L 0 b c d e f g) := by
  refine lU (spec_StateValid.j0L_is a b c d e f g) (LimIs.step1 (by simp only [spec_StateValid.j0]) ?_)
  simp only [spec_StateValid.j0]
  repeat' with_reducible first | exact lK _ | exact spec_StateValid.l0L_is .. | apply lI | apply lB | intro _
theorem spec_StateValid.l0L_eq (a : Int) (b c : ByteArray) (d : List (S29)) (e : List (S180)) (g : Bool) (i : ByteArray) : spec_StateValid.l0L a b c d e g i = if a < (d.length : Int) then (if 0 ≤ a then ((spec_IntervalHas.fL b c ((rd_T29 d a).f0)).bind fun t355 => (if t355 = true then (spec_StateValid.l0L (wrap64 (a + 1)) b c d e g i) else (some false))) else (none)) else ((spec_IntervalCut.fL b c i).bind fun bt356 => (if i.toList = ([] : List UInt8) then (some true) else (if g = true then (some bt356.2.2.2.2) else (some false)))) := by
  refine lU (spec_StateValid.l0L_is a b c d e g i) (LimIs.step1 (by simp only [spec_StateValid.l0]) ?_)
  simp only [spec_StateValid.l0]
  repeat' with_reducible first | exact lK _ | exact spec_IntervalCut.fL_is .. | exact spec_IntervalHas.fL_is .. | exact spec_StateValid.l0L_is .. | apply lI | apply lB | intro _
theorem spec_StateValid.fL_eq (a0_0 a0_1 : ByteArray) (l0_2 : List (S29)) (l0_3 : List (S180)) (a0_4 : Bool) (a0_5 : ByteArray) : spec_StateValid.fL a0_0 a0_1 l0_2 l0_3 a0_4 a0_5 = (spec_IntervalValid.fL a0_0 a0_1).bind fun t351 => (if t351 = true then ((spec_PairsValid.fL l0_2).bind fun t352 => (if t352 = true then ((spec_SessionsValid.fL l0_3).bind fun t353 => (spec_StateValid.j0L (!t353) a0_0 a0_1 l0_2 l0_3 a0_4 a0_5)) else (spec_StateValid.j0L true a0_0 a0_1 l0_2 l0_3 a0_4 a0_5))) else (spec_StateValid.j0L true a0_0 a0_1 l0_2 l0_3 a0_4 a0_5)) := by
  refine lU (spec_StateValid.fL_is a0_0 a0_1 l0_2 l0_3 a0_4 a0_5) ?_
  unfold spec_StateValid.f
  repeat' with_reducible first | exact lK _ | exact spec_IntervalValid.fL_is .. | exact spec_PairsValid.fL_is .. | exact spec_SessionsValid.fL_is .. | exact spec_StateValid.j0L_is .. | apply lI | apply lB | intro _
/-! ### spec_CommandValid -/
section
variable (a : Bool) (b : Int) (c : ByteArray) (d e : Int)
noncomputable def spec_CommandValid.j0L : Option (Bool) := Lim (spec_CommandValid.j0 · a b c d e)
theorem spec_CommandValid.j0L_is : LimIs (spec_CommandValid.j0 · a b c d e) (spec_CommandValid.j0L a b c d e) := lM (fun k => (spec_CommandValid.mono_l k).1 a b c d e)
end
section
variable (a : Int) (b : Bool) (c : Int) (d : ByteArray) (e g : Int)
noncomputable def spec_CommandValid.j1L : Option (Bool) := Lim (spec_CommandValid.j1 · a b c d e g)
theorem spec_CommandValid.j1L_is : LimIs (spec_CommandValid.j1 · a b c d e g) (spec_CommandValid.j1L a b c d e g) := lM (fun k => (spec_CommandValid.mono_l k).2 a b c d e g)
end
section
variable (a0_0 : Int) (a0_1 : ByteArray) (a0_2 a0_3 : Int)
noncomputable def spec_CommandValid.fL : Option (Bool) := Lim (spec_CommandValid.f · a0_0 a0_1 a0_2 a0_3)
theorem spec_CommandValid.fL_is : LimIs (spec_CommandValid.f · a0_0 a0_1 a0_2 a0_3) (spec_CommandValid.fL a0_0 a0_1 a0_2 a0_3) := lM (fun k => spec_CommandValid.mono a0_0 a0_1 a0_2 a0_3 k)
end
theorem spec_CommandValid.j0L_eq (a : Bool) (b : Int) (c : ByteArray) (d e : Int) : spec_CommandValid.j0L a b c d e = if a = true then (some false) else (if b = 1 then (spec_CommandValid.j1L b (b == 1) b c d e) else (if b = 3 then (spec_CommandValid.j1L b (b == 3) b c d e) else (spec_CommandValid.j1L b (b == 5) b c d e))) := by
  refine lU (spec_CommandValid.j0L_is a b c d e) (LimIs.step1 (by simp only [spec_CommandValid.j0]) ?_)
  simp only [spec_CommandValid.j0]
  repeat' with_reducible first | exact lK _ | exact spec_CommandValid.j1L_is .. | apply lI | apply lB | intro _
theorem spec_CommandValid.j1L_eq (a : Int) (b : Bool) (c : Int) (d : ByteArray) (e g : Int) : spec_CommandValid.j1L a b c d e g = if b = true then (if e = 0 then (some (g == 0)) else (some false)) else (if a = 2 then ((spec_l1In.f e 0 999).bind fun t365 => (if t365 = true then (some (g == 0)) else (some false))) else (if a = 4 then ((spec_l1In.f e 0 999).bind fun t366 => (if t366 = true then ((spec_l1In.f g (-1) 999).bind fun t367 => (some t367)) else (some false))) else (some false))) := by
  refine lU (spec_CommandValid.j1L_is a b c d e g) (LimIs.step1 (by simp only [spec_CommandValid.j1]) ?_)
  simp only [spec_CommandValid.j1]
  repeat' with_reducible first | exact lK _ | apply lI | apply lB | intro _
theorem spec_CommandValid.fL_eq (a0_0 : Int) (a0_1 : ByteArray) (a0_2 a0_3 : Int) : spec_CommandValid.fL a0_0 a0_1 a0_2 a0_3 = (spec_KeyValid.fL a0_1).bind fun t364 => (if t364 = true then (spec_CommandValid.j0L false a0_0 a0_1 a0_2 a0_3) else (if a0_0 = 5 then (spec_CommandValid.j0L (a0_1.toList != ([] : List UInt8)) a0_0 a0_1 a0_2 a0_3) else (spec_CommandValid.j0L true a0_0 a0_1 a0_2 a0_3))) := by
  refine lU (spec_CommandValid.fL_is a0_0 a0_1 a0_2 a0_3) ?_
  unfold spec_CommandValid.f
  repeat' with_reducible first | exact lK _ | exact spec_CommandValid.j0L_is .. | exact spec_KeyValid.fL_is .. | apply lI | apply lB | intro _
/-! ### spec_EntryValid -/
section
variable (a0_0 a0_1 a0_2 : Int) (a0_3 : ByteArray) (a0_4 a0_5 : Int)
noncomputable def spec_EntryValid.fL : Option (Bool) := Lim (spec_EntryValid.f · a0_0 a0_1 a0_2 a0_3 a0_4 a0_5)
theorem spec_EntryValid.fL_is : LimIs (spec_EntryValid.f · a0_0 a0_1 a0_2 a0_3 a0_4 a0_5) (spec_EntryValid.fL a0_0 a0_1 a0_2 a0_3 a0_4 a0_5) := lM (fun k => spec_EntryValid.mono a0_0 a0_1 a0_2 a0_3 a0_4 a0_5 k)
end
theorem spec_EntryValid.fL_eq (a0_0 a0_1 a0_2 : Int) (a0_3 : ByteArray) (a0_4 a0_5 : Int) : spec_EntryValid.fL a0_0 a0_1 a0_2 a0_3 a0_4 a0_5 = (spec_l1In.f a0_0 0 3).bind fun t369 => (if t369 = true then ((spec_l1In.f a0_1 1 999).bind fun t370 => (if t370 = true then ((spec_CommandValid.fL a0_2 a0_3 a0_4 a0_5).bind fun t371 => (some t371)) else (some false))) else (some false)) := by
  refine lU (spec_EntryValid.fL_is a0_0 a0_1 a0_2 a0_3 a0_4 a0_5) ?_
  unfold spec_EntryValid.f
  repeat' with_reducible first | exact lK _ | exact spec_CommandValid.fL_is .. | apply lI | apply lB | intro _
/-! ### spec_l10Log -/
section
variable (a : List (S138)) (b : Int)
noncomputable def spec_l10Log.l0L : Option (Bool) := Lim (spec_l10Log.l0 · a b)
theorem spec_l10Log.l0L_is : LimIs (spec_l10Log.l0 · a b) (spec_l10Log.l0L a b) := lM (fun k => (spec_l10Log.mono_l k) a b)
end
section
variable (l0 : List (S138))
noncomputable def spec_l10Log.fL : Option (Bool) := Lim (spec_l10Log.f · l0)
theorem spec_l10Log.fL_is : LimIs (spec_l10Log.f · l0) (spec_l10Log.fL l0) := lM (fun k => spec_l10Log.mono l0 k)
end
theorem spec_l10Log.l0L_eq (a : List (S138)) (b : Int) : spec_l10Log.l0L a b = if b < (a.length : Int) then (if b ≥ 24 then (some false) else (if 0 ≤ b then ((spec_EntryValid.fL ((rd_T138 a b).f0) ((rd_T138 a b).f1) ((rd_T138 a b).f2.f0) ((rd_T138 a b).f2.f1) ((rd_T138 a b).f2.f2) ((rd_T138 a b).f2.f3)).bind fun t373 => (if t373 = true then (spec_l10Log.l0L a (wrap64 (b + 1))) else (some false))) else (none))) else (some true) := by
  refine lU (spec_l10Log.l0L_is a b) (LimIs.step1 (by simp only [spec_l10Log.l0]) ?_)
  simp only [spec_l10Log.l0]
  repeat' with_reducible first | exact lK _ | exact spec_EntryValid.fL_is .. | exact spec_l10Log.l0L_is .. | apply lI | apply lB | intro _
theorem spec_l10Log.fL_eq (l0 : List (S138)) : spec_l10Log.fL l0 = spec_l10Log.l0L l0 0 := by
  refine lU (spec_l10Log.fL_is l0) ?_
  unfold spec_l10Log.f
  repeat' with_reducible first | exact lK _ | exact spec_l10Log.l0L_is .. | apply lI | apply lB | intro _
/-! ### spec_PairDrop -/
section
variable (l0 : List (S29)) (a1 : ByteArray)
noncomputable def spec_PairDrop.fL : Option ((List (S29)) × Bool) := Lim (spec_PairDrop.f · l0 a1)
theorem spec_PairDrop.fL_is : LimIs (spec_PairDrop.f · l0 a1) (spec_PairDrop.fL l0 a1) := lM (fun k => spec_PairDrop.mono l0 a1 k)
end
theorem spec_PairDrop.fL_eq (l0 : List (S29)) (a1 : ByteArray) : spec_PairDrop.fL l0 a1 = (some (([] : List (S29)) : List (S29))).bind fun y388 => ((spec_PairsValid.fL l0).bind fun t391 => (if t391 = true then ((spec_l4Place.fL l0 a1).bind fun t392 => (if t392 = (l0.length : Int) then (if y388.length + l0.length < 5864062014805 then (some ((y388 ++ l0), false)) else (none)) else (if 0 ≤ t392 then (if t392 < (l0.length : Int) then (if ((rd_T29 l0 t392).f0).toList = a1.toList then (if t392 ≤ (l0.length : Int) then ((some (l0.take (t392 : Int).toNat : List (S29))).bind fun y397 => (if y388.length + y397.length < 5864062014805 then ((some (y388 ++ y397 : List (S29))).bind fun y401 => (if 0 ≤ (wrap64 (t392 + 1)) then (if (wrap64 (t392 + 1)) ≤ (l0.length : Int) then ((some (l0.drop ((wrap64 (t392 + 1)) : Int).toNat : List (S29))).bind fun y404 => (if y401.length + y404.length < 5864062014805 then (some ((y401 ++ y404), true)) else (none))) else (none)) else (none))) else (none))) else (none)) else (if y388.length + l0.length < 5864062014805 then (some ((y388 ++ l0), false)) else (none))) else (none)) else (none)))) else (some (y388, false)))) := by
  refine lU (spec_PairDrop.fL_is l0 a1) ?_
  unfold spec_PairDrop.f
  repeat' with_reducible first | exact lK _ | exact spec_PairsValid.fL_is .. | exact spec_l4Place.fL_is .. | apply lI | apply lB | intro _
/-! ### spec_ApplyCommand -/
section
variable (a : List (S29)) (b : Bool) (c : Int) (d : ByteArray) (e g : Int)
noncomputable def spec_ApplyCommand.j0L : Option ((List (S29)) × Int) := Lim (spec_ApplyCommand.j0 · a b c d e g)
theorem spec_ApplyCommand.j0L_is : LimIs (spec_ApplyCommand.j0 · a b c d e g) (spec_ApplyCommand.j0L a b c d e g) := lM (fun k => (spec_ApplyCommand.mono_l k).1 a b c d e g)
end
section
variable (a b : List (S29)) (c : Int) (d : Bool) (e : Int) (g : ByteArray) (i j : Int)
noncomputable def spec_ApplyCommand.j1L : Option ((List (S29)) × Int) := Lim (spec_ApplyCommand.j1 · a b c d e g i j)
theorem spec_ApplyCommand.j1L_is : LimIs (spec_ApplyCommand.j1 · a b c d e g i j) (spec_ApplyCommand.j1L a b c d e g i j) := lM (fun k => (spec_ApplyCommand.mono_l k).2 a b c d e g i j)
end
section
variable (l0 : List (S29)) (a1_0 : Int) (a1_1 : ByteArray) (a1_2 a1_3 : Int)
noncomputable def spec_ApplyCommand.fL : Option ((List (S29)) × Int) := Lim (spec_ApplyCommand.f · l0 a1_0 a1_1 a1_2 a1_3)
theorem spec_ApplyCommand.fL_is : LimIs (spec_ApplyCommand.f · l0 a1_0 a1_1 a1_2 a1_3) (spec_ApplyCommand.fL l0 a1_0 a1_1 a1_2 a1_3) := lM (fun k => spec_ApplyCommand.mono l0 a1_0 a1_1 a1_2 a1_3 k)
end
theorem spec_ApplyCommand.j0L_eq (a : List (S29)) (b : Bool) (c : Int) (d : ByteArray) (e g : Int) : spec_ApplyCommand.j0L a b c d e g = if b = true then (some ((([] : List (S29))), (-3))) else ((some (([] : List (S29)) : List (S29))).bind fun y420 => (if y420.length + a.length < 5864062014805 then ((some (y420 ++ a : List (S29))).bind fun y423 => ((spec_PairGet.fL a d).bind fun t426 => (if c = 1 then (spec_ApplyCommand.j1L a y423 t426 true c d e g) else (if c = 4 then (spec_ApplyCommand.j1L a y423 t426 (g != t426) c d e g) else (spec_ApplyCommand.j1L a y423 t426 false c d e g))))) else (none))) := by
  refine lU (spec_ApplyCommand.j0L_is a b c d e g) (LimIs.step1 (by simp only [spec_ApplyCommand.j0]) ?_)
  simp only [spec_ApplyCommand.j0]
  repeat' with_reducible first | exact lK _ | exact spec_ApplyCommand.j1L_is .. | exact spec_PairGet.fL_is .. | apply lI | apply lB | intro _
theorem spec_ApplyCommand.j1L_eq (a b : List (S29)) (c : Int) (d : Bool) (e : Int) (g : ByteArray) (i j : Int) : spec_ApplyCommand.j1L a b c d e g i j = if d = true then (some (b, c)) else (if e = 3 then ((spec_PairDrop.fL a g).bind fun bt427 => (some (bt427.1, c))) else (if c < 0 then (if (a.length : Int) ≥ 8 then (some (b, (-2))) else ((spec_PairPut.fL a g i).bind fun bt431 => (some (bt431.1, c)))) else ((spec_PairPut.fL a g i).bind fun bt435 => (some (bt435.1, c))))) := by
  refine lU (spec_ApplyCommand.j1L_is a b c d e g i j) (LimIs.step1 (by simp only [spec_ApplyCommand.j1]) ?_)
  simp only [spec_ApplyCommand.j1]
  repeat' with_reducible first | exact lK _ | exact spec_PairDrop.fL_is .. | exact spec_PairPut.fL_is .. | apply lI | apply lB | intro _
theorem spec_ApplyCommand.fL_eq (l0 : List (S29)) (a1_0 : Int) (a1_1 : ByteArray) (a1_2 a1_3 : Int) : spec_ApplyCommand.fL l0 a1_0 a1_1 a1_2 a1_3 = (spec_PairsValid.fL l0).bind fun t415 => (if t415 = true then ((spec_CommandValid.fL a1_0 a1_1 a1_2 a1_3).bind fun t416 => (if t416 = true then (spec_ApplyCommand.j0L l0 (a1_0 == 5) a1_0 a1_1 a1_2 a1_3) else (spec_ApplyCommand.j0L l0 true a1_0 a1_1 a1_2 a1_3))) else (spec_ApplyCommand.j0L l0 true a1_0 a1_1 a1_2 a1_3)) := by
  refine lU (spec_ApplyCommand.fL_is l0 a1_0 a1_1 a1_2 a1_3) ?_
  unfold spec_ApplyCommand.f
  repeat' with_reducible first | exact lK _ | exact spec_ApplyCommand.j0L_is .. | exact spec_CommandValid.fL_is .. | exact spec_PairsValid.fL_is .. | apply lI | apply lB | intro _
/-! ### spec_ApplyEntry -/
section
variable (a : Bool) (b c : ByteArray) (d : List (S29)) (e : List (S180)) (g : Bool) (i : ByteArray) (j l m : Int) (n : ByteArray) (o p : Int)
noncomputable def spec_ApplyEntry.j0L : Option (ByteArray × ByteArray × (List (S29)) × (List (S180)) × Bool × ByteArray × Int) := Lim (spec_ApplyEntry.j0 · a b c d e g i j l m n o p)
theorem spec_ApplyEntry.j0L_is : LimIs (spec_ApplyEntry.j0 · a b c d e g i j l m n o p) (spec_ApplyEntry.j0L a b c d e g i j l m n o p) := lM (fun k => (spec_ApplyEntry.mono_l k).1 a b c d e g i j l m n o p)
end
section
variable (a b : Bool) (c d : ByteArray) (e : List (S29)) (g : List (S180)) (i : Bool) (j : ByteArray) (l m n : Int) (o : ByteArray) (p q : Int) (s u : ByteArray) (v : List (S29)) (w : List (S180)) (x : Bool) (y : ByteArray)
noncomputable def spec_ApplyEntry.j1L : Option (ByteArray × ByteArray × (List (S29)) × (List (S180)) × Bool × ByteArray × Int) := Lim (spec_ApplyEntry.j1 · a b c d e g i j l m n o p q s u v w x y)
theorem spec_ApplyEntry.j1L_is : LimIs (spec_ApplyEntry.j1 · a b c d e g i j l m n o p q s u v w x y) (spec_ApplyEntry.j1L a b c d e g i j l m n o p q s u v w x y) := lM (fun k => (spec_ApplyEntry.mono_l k).2 a b c d e g i j l m n o p q s u v w x y)
end
section
variable (a0_0 a0_1 : ByteArray) (l0_2 : List (S29)) (l0_3 : List (S180)) (a0_4 : Bool) (a0_5 : ByteArray) (a1_0 a1_1 a1_2 : Int) (a1_3 : ByteArray) (a1_4 a1_5 : Int)
noncomputable def spec_ApplyEntry.fL : Option (ByteArray × ByteArray × (List (S29)) × (List (S180)) × Bool × ByteArray × Int) := Lim (spec_ApplyEntry.f · a0_0 a0_1 l0_2 l0_3 a0_4 a0_5 a1_0 a1_1 a1_2 a1_3 a1_4 a1_5)
theorem spec_ApplyEntry.fL_is : LimIs (spec_ApplyEntry.f · a0_0 a0_1 l0_2 l0_3 a0_4 a0_5 a1_0 a1_1 a1_2 a1_3 a1_4 a1_5) (spec_ApplyEntry.fL a0_0 a0_1 l0_2 l0_3 a0_4 a0_5 a1_0 a1_1 a1_2 a1_3 a1_4 a1_5) := lM (fun k => spec_ApplyEntry.mono a0_0 a0_1 l0_2 l0_3 a0_4 a0_5 a1_0 a1_1 a1_2 a1_3 a1_4 a1_5 k)
end
theorem spec_ApplyEntry.j0L_eq (a : Bool) (b c : ByteArray) (d : List (S29)) (e : List (S180)) (g : Bool) (i : ByteArray) (j l m : Int) (n : ByteArray) (o p : Int) : spec_ApplyEntry.j0L a b c d e g i j l m n o p = if a = true then (some ((⟨#[]⟩ : ByteArray), (⟨#[]⟩ : ByteArray), ([] : List (S29)), ([] : List (S180)), false, (⟨#[]⟩ : ByteArray), (-3))) else ((spec_l10Copy.f b c d e g i).bind fun bt444 => ((spec_l9Find.fL e j).bind fun bt455 => (if bt455.2.1 = l then (some (bt444.1, bt444.2.1, bt444.2.2.1, bt444.2.2.2.1, bt444.2.2.2.2.1, bt444.2.2.2.2.2, bt455.2.2)) else (if bt455.2.1 > l then (some (bt444.1, bt444.2.1, bt444.2.2.1, bt444.2.2.2.1, bt444.2.2.2.2.1, bt444.2.2.2.2.2, (-4))) else (if g = true then (some (bt444.1, bt444.2.1, bt444.2.2.1, bt444.2.2.2.1, bt444.2.2.2.2.1, bt444.2.2.2.2.2, (-3))) else ((spec_IntervalCut.fL b c n).bind fun bt459 => (if m = 5 then (if n.toList = ([] : List UInt8) then (spec_ApplyEntry.j1L (m == 5) false b c d e g i j l m n o p bt444.1 bt444.2.1 bt444.2.2.1 bt444.2.2.2.1 bt444.2.2.2.2.1 bt444.2.2.2.2.2) else (if bt459.2.2.2.2 = true then (spec_ApplyEntry.j1L (m == 5) false b c d e g i j l m n o p bt444.1 bt444.2.1 bt444.2.2.1 bt444.2.2.2.1 bt444.2.2.2.2.1 bt444.2.2.2.2.2) else (spec_ApplyEntry.j1L (m == 5) true b c d e g i j l m n o p bt444.1 bt444.2.1 bt444.2.2.1 bt444.2.2.2.1 bt444.2.2.2.2.1 bt444.2.2.2.2.2))) else ((spec_IntervalHas.fL b c n).bind fun t466 => (spec_ApplyEntry.j1L (m == 5) (!t466) b c d e g i j l m n o p bt444.1 bt444.2.1 bt444.2.2.1 bt444.2.2.2.1 bt444.2.2.2.2.1 bt444.2.2.2.2.2))))))))) := by
  refine lU (spec_ApplyEntry.j0L_is a b c d e g i j l m n o p) (LimIs.step1 (by simp only [spec_ApplyEntry.j0]) ?_)
  simp only [spec_ApplyEntry.j0]
  repeat' with_reducible first | exact lK _ | exact spec_ApplyEntry.j1L_is .. | exact spec_IntervalCut.fL_is .. | exact spec_IntervalHas.fL_is .. | exact spec_l9Find.fL_is .. | apply lI | apply lB | intro _
theorem spec_ApplyEntry.j1L_eq (a b : Bool) (c d : ByteArray) (e : List (S29)) (g : List (S180)) (i : Bool) (j : ByteArray) (l m n : Int) (o : ByteArray) (p q : Int) (s u : ByteArray) (v : List (S29)) (w : List (S180)) (x : Bool) (y : ByteArray) : spec_ApplyEntry.j1L a b c d e g i j l m n o p q s u v w x y = if b = true then (some (s, u, v, w, x, y, (-3))) else (if a = true then ((spec_SessionPut.fL w l m 0).bind fun bt467 => (some (s, u, v, bt467.1, true, o, 0))) else ((spec_ApplyCommand.fL e n o p q).bind fun bt471 => ((spec_SessionPut.fL w l m bt471.2).bind fun bt475 => (some (s, u, bt471.1, bt475.1, x, y, bt471.2))))) := by
  refine lU (spec_ApplyEntry.j1L_is a b c d e g i j l m n o p q s u v w x y) (LimIs.step1 (by simp only [spec_ApplyEntry.j1]) ?_)
  simp only [spec_ApplyEntry.j1]
  repeat' with_reducible first | exact lK _ | exact spec_ApplyCommand.fL_is .. | exact spec_SessionPut.fL_is .. | apply lI | apply lB | intro _
theorem spec_ApplyEntry.fL_eq (a0_0 a0_1 : ByteArray) (l0_2 : List (S29)) (l0_3 : List (S180)) (a0_4 : Bool) (a0_5 : ByteArray) (a1_0 a1_1 a1_2 : Int) (a1_3 : ByteArray) (a1_4 a1_5 : Int) : spec_ApplyEntry.fL a0_0 a0_1 l0_2 l0_3 a0_4 a0_5 a1_0 a1_1 a1_2 a1_3 a1_4 a1_5 = (spec_StateValid.fL a0_0 a0_1 l0_2 l0_3 a0_4 a0_5).bind fun t442 => (if t442 = true then ((spec_EntryValid.fL a1_0 a1_1 a1_2 a1_3 a1_4 a1_5).bind fun t443 => (spec_ApplyEntry.j0L (!t443) a0_0 a0_1 l0_2 l0_3 a0_4 a0_5 a1_0 a1_1 a1_2 a1_3 a1_4 a1_5)) else (spec_ApplyEntry.j0L true a0_0 a0_1 l0_2 l0_3 a0_4 a0_5 a1_0 a1_1 a1_2 a1_3 a1_4 a1_5)) := by
  refine lU (spec_ApplyEntry.fL_is a0_0 a0_1 l0_2 l0_3 a0_4 a0_5 a1_0 a1_1 a1_2 a1_3 a1_4 a1_5) ?_
  unfold spec_ApplyEntry.f
  repeat' with_reducible first | exact lK _ | exact spec_ApplyEntry.j0L_is .. | exact spec_EntryValid.fL_is .. | exact spec_StateValid.fL_is .. | apply lI | apply lB | intro _
/-! ### spec_ChangesOf -/
section
variable (a : List (S138)) (b : List (S75)) (c : Bool) (d e : ByteArray) (g : List (S29)) (i : List (S180)) (j : Bool) (l : ByteArray)
noncomputable def spec_ChangesOf.j0L : Option ((List (S75))) := Lim (spec_ChangesOf.j0 · a b c d e g i j l)
theorem spec_ChangesOf.j0L_is : LimIs (spec_ChangesOf.j0 · a b c d e g i j l) (spec_ChangesOf.j0L a b c d e g i j l) := lM (fun k => (spec_ChangesOf.mono_l k).1 a b c d e g i j l)
end
section
variable (a : List (S138)) (b : List (S75)) (c : Int) (d e : ByteArray) (g : List (S29)) (i : List (S180)) (j : Bool) (l : ByteArray)
noncomputable def spec_ChangesOf.l0L : Option ((List (S75))) := Lim (spec_ChangesOf.l0 · a b c d e g i j l)
theorem spec_ChangesOf.l0L_is : LimIs (spec_ChangesOf.l0 · a b c d e g i j l) (spec_ChangesOf.l0L a b c d e g i j l) := lM (fun k => (spec_ChangesOf.mono_l k).2 a b c d e g i j l)
end
section
variable (a0_0 a0_1 : ByteArray) (l0_2 : List (S29)) (l0_3 : List (S180)) (a0_4 : Bool) (a0_5 : ByteArray) (l1 : List (S138))
noncomputable def spec_ChangesOf.fL : Option ((List (S75))) := Lim (spec_ChangesOf.f · a0_0 a0_1 l0_2 l0_3 a0_4 a0_5 l1)
theorem spec_ChangesOf.fL_is : LimIs (spec_ChangesOf.f · a0_0 a0_1 l0_2 l0_3 a0_4 a0_5 l1) (spec_ChangesOf.fL a0_0 a0_1 l0_2 l0_3 a0_4 a0_5 l1) := lM (fun k => spec_ChangesOf.mono a0_0 a0_1 l0_2 l0_3 a0_4 a0_5 l1 k)
end
theorem spec_ChangesOf.j0L_eq (a : List (S138)) (b : List (S75)) (c : Bool) (d e : ByteArray) (g : List (S29)) (i : List (S180)) (j : Bool) (l : ByteArray) : spec_ChangesOf.j0L a b c d e g i j l = if c = true then (some b) else ((spec_l10Copy.f d e g i j l).bind fun bt485 => (spec_ChangesOf.l0L a b 0 bt485.1 bt485.2.1 bt485.2.2.1 bt485.2.2.2.1 bt485.2.2.2.2.1 bt485.2.2.2.2.2)) := by
  refine lU (spec_ChangesOf.j0L_is a b c d e g i j l) (LimIs.step1 (by simp only [spec_ChangesOf.j0]) ?_)
  simp only [spec_ChangesOf.j0]
  repeat' with_reducible first | exact lK _ | exact spec_ChangesOf.l0L_is .. | apply lI | apply lB | intro _
theorem spec_ChangesOf.l0L_eq (a : List (S138)) (b : List (S75)) (c : Int) (d e : ByteArray) (g : List (S29)) (i : List (S180)) (j : Bool) (l : ByteArray) : spec_ChangesOf.l0L a b c d e g i j l = if c < (a.length : Int) then (if 0 ≤ c then ((spec_ApplyEntry.fL d e g i j l ((rd_T138 a c).f0) ((rd_T138 a c).f1) ((rd_T138 a c).f2.f0) ((rd_T138 a c).f2.f1) ((rd_T138 a c).f2.f2) ((rd_T138 a c).f2.f3)).bind fun bt498 => ((spec_PairGet.fL g ((rd_T138 a c).f2.f1)).bind fun t510 => ((spec_PairGet.fL bt498.2.2.1 ((rd_T138 a c).f2.f1)).bind fun t511 => (if t510 = t511 then (spec_ChangesOf.l0L a b (wrap64 (c + 1)) bt498.1 bt498.2.1 bt498.2.2.1 bt498.2.2.2.1 bt498.2.2.2.2.1 bt498.2.2.2.2.2.1) else (if b.length < 3518437208883 then (spec_ChangesOf.l0L a (b ++ [(⟨c, (rd_T138 a c).f2.f1, t510, t511⟩ : S75)]) (wrap64 (c + 1)) bt498.1 bt498.2.1 bt498.2.2.1 bt498.2.2.2.1 bt498.2.2.2.2.1 bt498.2.2.2.2.2.1) else (none)))))) else (none)) else (some b) := by
  refine lU (spec_ChangesOf.l0L_is a b c d e g i j l) (LimIs.step1 (by simp only [spec_ChangesOf.l0]) ?_)
  simp only [spec_ChangesOf.l0]
  repeat' with_reducible first | exact lK _ | exact spec_ApplyEntry.fL_is .. | exact spec_ChangesOf.l0L_is .. | exact spec_PairGet.fL_is .. | apply lI | apply lB | intro _
theorem spec_ChangesOf.fL_eq (a0_0 a0_1 : ByteArray) (l0_2 : List (S29)) (l0_3 : List (S180)) (a0_4 : Bool) (a0_5 : ByteArray) (l1 : List (S138)) : spec_ChangesOf.fL a0_0 a0_1 l0_2 l0_3 a0_4 a0_5 l1 = (some (([] : List (S75)) : List (S75))).bind fun y480 => ((spec_StateValid.fL a0_0 a0_1 l0_2 l0_3 a0_4 a0_5).bind fun t483 => (if t483 = true then ((spec_l10Log.fL l1).bind fun t484 => (spec_ChangesOf.j0L l1 y480 (!t484) a0_0 a0_1 l0_2 l0_3 a0_4 a0_5)) else (spec_ChangesOf.j0L l1 y480 true a0_0 a0_1 l0_2 l0_3 a0_4 a0_5))) := by
  refine lU (spec_ChangesOf.fL_is a0_0 a0_1 l0_2 l0_3 a0_4 a0_5 l1) ?_
  unfold spec_ChangesOf.f
  repeat' with_reducible first | exact lK _ | exact spec_ChangesOf.j0L_is .. | exact spec_StateValid.fL_is .. | exact spec_l10Log.fL_is .. | apply lI | apply lB | intro _
/-! ### spec_l20Cmd -/
section
variable (a : ByteArray) (b : List Int) (c : Int)
noncomputable def spec_l20Cmd.j0L : Option (Int × ByteArray × Int × Int × Int) := Lim (spec_l20Cmd.j0 · a b c)
theorem spec_l20Cmd.j0L_is : LimIs (spec_l20Cmd.j0 · a b c) (spec_l20Cmd.j0L a b c) := lM (fun k => (spec_l20Cmd.mono_l k) a b c)
end
section
variable (s0_0 : List Int) (s0_1 a1 : Int)
noncomputable def spec_l20Cmd.fL : Option (Int × ByteArray × Int × Int × Int) := Lim (spec_l20Cmd.f · s0_0 s0_1 a1)
theorem spec_l20Cmd.fL_is : LimIs (spec_l20Cmd.f · s0_0 s0_1 a1) (spec_l20Cmd.fL s0_0 s0_1 a1) := lM (fun k => spec_l20Cmd.mono s0_0 s0_1 a1 k)
end
theorem spec_l20Cmd.j0L_eq (a : ByteArray) (b : List Int) (c : Int) : spec_l20Cmd.j0L a b c = (spec_l20Rd_pick.fL b c 8).bind fun bt534 => (if bt534.1 = 0 then (some (1, a, 0, 0, bt534.2)) else (if bt534.1 = 1 then (some (3, a, 0, 0, bt534.2)) else (if bt534.1 = 2 then ((spec_l20Rd_pick.fL b bt534.2 5).bind fun bt536 => ((spec_l20Rd_pick.fL b bt536.2 5).bind fun bt538 => (some (4, a, bt538.1, wrap64 (bt536.1 - 1), bt538.2)))) else ((spec_l20Value.fL b bt534.2 0).bind fun bt540 => (some (2, a, Int.tmod bt540.1 1000, 0, bt540.2)))))) := by
  refine lU (spec_l20Cmd.j0L_is a b c) (LimIs.step1 (by simp only [spec_l20Cmd.j0]) ?_)
  simp only [spec_l20Cmd.j0]
  repeat' with_reducible first | exact lK _ | exact spec_l20Rd_pick.fL_is .. | exact spec_l20Value.fL_is .. | apply lI | apply lB | intro _
theorem spec_l20Cmd.fL_eq (s0_0 : List Int) (s0_1 a1 : Int) : spec_l20Cmd.fL s0_0 s0_1 a1 = (spec_l20Rd_odd.fL s0_0 s0_1 a1).bind fun bt516 => (if bt516.1 = true then ((some (([(⟨0, (⟨#[]⟩ : ByteArray), 0, 0⟩ : S40), (⟨1, (⟨#[]⟩ : ByteArray), 0, 0⟩ : S40), (⟨1, (⟨#[98]⟩ : ByteArray), 1, 0⟩ : S40), (⟨2, (⟨#[98]⟩ : ByteArray), 1000, 0⟩ : S40), (⟨2, (⟨#[98]⟩ : ByteArray), 0, 1⟩ : S40), (⟨4, (⟨#[98]⟩ : ByteArray), 0, (-2)⟩ : S40), (⟨4, (⟨#[98]⟩ : ByteArray), (-1), 0⟩ : S40), (⟨6, (⟨#[98]⟩ : ByteArray), 0, 0⟩ : S40), (⟨3, (⟨#[65]⟩ : ByteArray), 0, 0⟩ : S40), (⟨5, (⟨#[98, 49]⟩ : ByteArray), 0, 0⟩ : S40)] : List (S40)) : List (S40))).bind fun y518 => ((spec_l20Rd_pick.fL s0_0 bt516.2 10).bind fun bt521 => (if 0 ≤ bt521.1 then (if bt521.1 < (y518.length : Int) then (some ((rd_T40 y518 bt521.1).f0, (rd_T40 y518 bt521.1).f1, (rd_T40 y518 bt521.1).f2, (rd_T40 y518 bt521.1).f3, bt521.2)) else (none)) else (none)))) else ((spec_l20Key.fL s0_0 bt516.2 0).bind fun bt524 => ((spec_l20Rd_pick.fL s0_0 bt524.2 2).bind fun bt526 => (if bt526.1 = 0 then ((some (([(⟨#[98]⟩ : ByteArray), (⟨#[99]⟩ : ByteArray), (⟨#[100]⟩ : ByteArray), (⟨#[109]⟩ : ByteArray)] : List ByteArray) : List ByteArray)).bind fun y528 => ((spec_l20Rd_pick.fL s0_0 bt526.2 4).bind fun bt531 => (if 0 ≤ bt531.1 then (if bt531.1 < (y528.length : Int) then (spec_l20Cmd.j0L (rdOf ByteArray.empty y528 bt531.1) s0_0 bt531.2) else (none)) else (none)))) else (spec_l20Cmd.j0L bt524.1 s0_0 bt526.2))))) := by
  refine lU (spec_l20Cmd.fL_is s0_0 s0_1 a1) ?_
  unfold spec_l20Cmd.f
  repeat' with_reducible first | exact lK _ | exact spec_l20Cmd.j0L_is .. | exact spec_l20Key.fL_is .. | exact spec_l20Rd_odd.fL_is .. | exact spec_l20Rd_pick.fL_is .. | apply lI | apply lB | intro _
/-! ### spec_l20Any -/
section
variable (s0_0 : List Int) (s0_1 a1 : Int)
noncomputable def spec_l20Any.fL : Option (Int × ByteArray × Int × Int × Int) := Lim (spec_l20Any.f · s0_0 s0_1 a1)
theorem spec_l20Any.fL_is : LimIs (spec_l20Any.f · s0_0 s0_1 a1) (spec_l20Any.fL s0_0 s0_1 a1) := lM (fun k => spec_l20Any.mono s0_0 s0_1 a1 k)
end
theorem spec_l20Any.fL_eq (s0_0 : List Int) (s0_1 a1 : Int) : spec_l20Any.fL s0_0 s0_1 a1 = (spec_l20Cmd.fL s0_0 s0_1 a1).bind fun bt543 => ((spec_l20Rd_pick.fL s0_0 bt543.2.2.2.2 5).bind fun bt549 => (if bt549.1 = 0 then ((spec_l20Key.fL s0_0 bt549.2 0).bind fun bt551 => ((some (([(⟨#[]⟩ : ByteArray), (⟨#[98]⟩ : ByteArray), (⟨#[99]⟩ : ByteArray), bt551.1] : List ByteArray) : List ByteArray)).bind fun y553 => ((spec_l20Rd_pick.fL s0_0 bt551.2 4).bind fun bt556 => (if 0 ≤ bt556.1 then (if bt556.1 < (y553.length : Int) then (some (5, rdOf ByteArray.empty y553 bt556.1, 0, 0, bt556.2)) else (none)) else (none))))) else (some (bt543.1, bt543.2.1, bt543.2.2.1, bt543.2.2.2.1, bt549.2)))) := by
  refine lU (spec_l20Any.fL_is s0_0 s0_1 a1) ?_
  unfold spec_l20Any.f
  repeat' with_reducible first | exact lK _ | exact spec_l20Cmd.fL_is .. | exact spec_l20Key.fL_is .. | exact spec_l20Rd_pick.fL_is .. | apply lI | apply lB | intro _
/-! ### spec_l20Entry -/
section
variable (s0_0 : List Int) (s0_1 a1 : Int)
noncomputable def spec_l20Entry.fL : Option (Int × Int × Int × ByteArray × Int × Int × Int) := Lim (spec_l20Entry.f · s0_0 s0_1 a1)
theorem spec_l20Entry.fL_is : LimIs (spec_l20Entry.f · s0_0 s0_1 a1) (spec_l20Entry.fL s0_0 s0_1 a1) := lM (fun k => spec_l20Entry.mono s0_0 s0_1 a1 k)
end
theorem spec_l20Entry.fL_eq (s0_0 : List Int) (s0_1 a1 : Int) : spec_l20Entry.fL s0_0 s0_1 a1 = (spec_l20Rd_pick.fL s0_0 s0_1 4).bind fun bt560 => ((spec_l20Rd_pick.fL s0_0 bt560.2 6).bind fun bt562 => ((spec_l20Any.fL s0_0 bt562.2 0).bind fun bt564 => ((spec_l20Rd_odd.fL s0_0 bt564.2.2.2.2 a1).bind fun bt570 => (if bt570.1 = true then ((some (([(⟨0, 0, (⟨0, (⟨#[]⟩ : ByteArray), 0, 0⟩ : S40)⟩ : S138), (⟨4, 1, (⟨bt564.1, bt564.2.1, bt564.2.2.1, bt564.2.2.2.1⟩ : S40)⟩ : S138), (⟨(-1), 1, (⟨bt564.1, bt564.2.1, bt564.2.2.1, bt564.2.2.2.1⟩ : S40)⟩ : S138), (⟨1, 0, (⟨bt564.1, bt564.2.1, bt564.2.2.1, bt564.2.2.2.1⟩ : S40)⟩ : S138), (⟨1, 1000, (⟨bt564.1, bt564.2.1, bt564.2.2.1, bt564.2.2.2.1⟩ : S40)⟩ : S138), (⟨1, 1, (⟨0, (⟨#[]⟩ : ByteArray), 0, 0⟩ : S40)⟩ : S138)] : List (S138)) : List (S138))).bind fun y572 => ((spec_l20Rd_pick.fL s0_0 bt570.2 6).bind fun bt575 => (if 0 ≤ bt575.1 then (if bt575.1 < (y572.length : Int) then (some ((rd_T138 y572 bt575.1).f0, (rd_T138 y572 bt575.1).f1, (rd_T138 y572 bt575.1).f2.f0, (rd_T138 y572 bt575.1).f2.f1, (rd_T138 y572 bt575.1).f2.f2, (rd_T138 y572 bt575.1).f2.f3, bt575.2)) else (none)) else (none)))) else (some (bt560.1, wrap64 (1 + bt562.1), bt564.1, bt564.2.1, bt564.2.2.1, bt564.2.2.2.1, bt570.2)))))) := by
  refine lU (spec_l20Entry.fL_is s0_0 s0_1 a1) ?_
  unfold spec_l20Entry.f
  repeat' with_reducible first | exact lK _ | exact spec_l20Any.fL_is .. | exact spec_l20Rd_odd.fL_is .. | exact spec_l20Rd_pick.fL_is .. | apply lI | apply lB | intro _
/-! ### spec_l20Log -/
section
variable (a : Int) (b : List (S138)) (c : Int) (d : List Int) (e : Int)
noncomputable def spec_l20Log.l0L : Option ((List (S138)) × Int) := Lim (spec_l20Log.l0 · a b c d e)
theorem spec_l20Log.l0L_is : LimIs (spec_l20Log.l0 · a b c d e) (spec_l20Log.l0L a b c d e) := lM (fun k => (spec_l20Log.mono_l k).1 a b c d e)
end
section
variable (a : Int) (b : List (S138)) (c : Int) (d : Bool) (e : List Int) (g i j l : Int) (m : ByteArray) (n o : Int)
noncomputable def spec_l20Log.j1L : Option ((List (S138)) × Int) := Lim (spec_l20Log.j1 · a b c d e g i j l m n o)
theorem spec_l20Log.j1L_is : LimIs (spec_l20Log.j1 · a b c d e g i j l m n o) (spec_l20Log.j1L a b c d e g i j l m n o) := lM (fun k => (spec_l20Log.mono_l k).2.1 a b c d e g i j l m n o)
end
section
variable (a : Int) (b : List (S138)) (c : Int) (d : List Int) (e g i j : Int) (l : ByteArray) (m n : Int)
noncomputable def spec_l20Log.j2L : Option ((List (S138)) × Int) := Lim (spec_l20Log.j2 · a b c d e g i j l m n)
theorem spec_l20Log.j2L_is : LimIs (spec_l20Log.j2 · a b c d e g i j l m n) (spec_l20Log.j2L a b c d e g i j l m n) := lM (fun k => (spec_l20Log.mono_l k).2.2.1 a b c d e g i j l m n)
end
section
variable (a : List (S138)) (b : List Int) (c : Int)
noncomputable def spec_l20Log.l1L : Option ((List (S138)) × Int) := Lim (spec_l20Log.l1 · a b c)
theorem spec_l20Log.l1L_is : LimIs (spec_l20Log.l1 · a b c) (spec_l20Log.l1L a b c) := lM (fun k => (spec_l20Log.mono_l k).2.2.2 a b c)
end
section
variable (s0_0 : List Int) (s0_1 a1 : Int)
noncomputable def spec_l20Log.fL : Option ((List (S138)) × Int) := Lim (spec_l20Log.f · s0_0 s0_1 a1)
theorem spec_l20Log.fL_is : LimIs (spec_l20Log.f · s0_0 s0_1 a1) (spec_l20Log.fL s0_0 s0_1 a1) := lM (fun k => spec_l20Log.mono s0_0 s0_1 a1 k)
end
theorem spec_l20Log.l0L_eq (a : Int) (b : List (S138)) (c : Int) (d : List Int) (e : Int) : spec_l20Log.l0L a b c d e = if c > 0 then ((spec_l20Entry.fL d e 0).bind fun bt583 => (if bt583.2.2.1 = 5 then ((spec_l20Rd_pick.fL d bt583.2.2.2.2.2.2 3).bind fun bt591 => (spec_l20Log.j1L a b c (decide (bt591.1 > 0)) d bt591.2 bt583.1 bt583.2.1 bt583.2.2.1 bt583.2.2.2.1 bt583.2.2.2.2.1 bt583.2.2.2.2.2.1)) else (spec_l20Log.j1L a b c false d bt583.2.2.2.2.2.2 bt583.1 bt583.2.1 bt583.2.2.1 bt583.2.2.2.1 bt583.2.2.2.2.1 bt583.2.2.2.2.2.1))) else ((spec_l20Rd_odd.fL d e a).bind fun bt614 => (if bt614.1 = true then ((spec_l20Rd_pick.fL d bt614.2 2).bind fun bt616 => (if bt616.1 = 0 then ((spec_l20Entry.fL d bt616.2 1).bind fun bt618 => (if b.length < 2513169434916 then (some ((b ++ [(⟨bt618.1, bt618.2.1, (⟨bt618.2.2.1, bt618.2.2.2.1, bt618.2.2.2.2.1, bt618.2.2.2.2.2.1⟩ : S40)⟩ : S138)]), bt618.2.2.2.2.2.2)) else (none))) else (spec_l20Log.l1L b d bt616.2))) else (some (b, bt614.2)))) := by
  refine lU (spec_l20Log.l0L_is a b c d e) (LimIs.step1 (by simp only [spec_l20Log.l0]) ?_)
  simp only [spec_l20Log.l0]
  repeat' with_reducible first | exact lK _ | exact spec_l20Entry.fL_is .. | exact spec_l20Log.j1L_is .. | exact spec_l20Log.l1L_is .. | exact spec_l20Rd_odd.fL_is .. | exact spec_l20Rd_pick.fL_is .. | apply lI | apply lB | intro _
theorem spec_l20Log.j1L_eq (a : Int) (b : List (S138)) (c : Int) (d : Bool) (e : List Int) (g i j l : Int) (m : ByteArray) (n o : Int) : spec_l20Log.j1L a b c d e g i j l m n o = if d = true then ((spec_l20Cmd.fL e g 0).bind fun bt593 => (spec_l20Log.j2L a b c e bt593.2.2.2.2 i j bt593.1 bt593.2.1 bt593.2.2.1 bt593.2.2.2.1)) else (spec_l20Log.j2L a b c e g i j l m n o) := by
  refine lU (spec_l20Log.j1L_is a b c d e g i j l m n o) (LimIs.step1 (by simp only [spec_l20Log.j1]) ?_)
  simp only [spec_l20Log.j1]
  repeat' with_reducible first | exact lK _ | exact spec_l20Cmd.fL_is .. | exact spec_l20Log.j2L_is .. | apply lI | apply lB | intro _
theorem spec_l20Log.j2L_eq (a : Int) (b : List (S138)) (c : Int) (d : List Int) (e g i j : Int) (l : ByteArray) (m n : Int) : spec_l20Log.j2L a b c d e g i j l m n = (spec_l20Rd_pick.fL d e 8).bind fun bt598 => (if (b.length : Int) > 0 then ((spec_l20Rd_pick.fL d bt598.2 6).bind fun bt600 => (if bt600.1 = 0 then ((spec_l20Rd_pick.fL d bt600.2 (b.length : Int)).bind fun bt602 => (if 0 ≤ bt602.1 then (if bt602.1 < (b.length : Int) then (if b.length < 2513169434916 then (spec_l20Log.l0L a (b ++ [(⟨(rd_T138 b bt602.1).f0, (rd_T138 b bt602.1).f1, (⟨(rd_T138 b bt602.1).f2.f0, (rd_T138 b bt602.1).f2.f1, (rd_T138 b bt602.1).f2.f2, (rd_T138 b bt602.1).f2.f3⟩ : S40)⟩ : S138)]) (wrap64 (c - 1)) d bt602.2) else (none)) else (none)) else (none))) else (if b.length < 2513169434916 then (spec_l20Log.l0L a (b ++ [(⟨g, wrap64 (1 + bt598.1), (⟨j, l, m, n⟩ : S40)⟩ : S138)]) (wrap64 (c - 1)) d bt600.2) else (none)))) else (if b.length < 2513169434916 then (spec_l20Log.l0L a (b ++ [(⟨g, wrap64 (1 + bt598.1), (⟨j, l, m, n⟩ : S40)⟩ : S138)]) (wrap64 (c - 1)) d bt598.2) else (none))) := by
  refine lU (spec_l20Log.j2L_is a b c d e g i j l m n) (LimIs.step1 (by simp only [spec_l20Log.j2]) ?_)
  simp only [spec_l20Log.j2]
  repeat' with_reducible first | exact lK _ | exact spec_l20Log.l0L_is .. | exact spec_l20Rd_pick.fL_is .. | apply lI | apply lB | intro _
theorem spec_l20Log.l1L_eq (a : List (S138)) (b : List Int) (c : Int) : spec_l20Log.l1L a b c = if (a.length : Int) ≤ 24 then ((spec_l20Entry.fL b c 0).bind fun bt628 => (if a.length < 2513169434916 then (spec_l20Log.l1L (a ++ [(⟨bt628.1, bt628.2.1, (⟨bt628.2.2.1, bt628.2.2.2.1, bt628.2.2.2.2.1, bt628.2.2.2.2.2.1⟩ : S40)⟩ : S138)]) b bt628.2.2.2.2.2.2) else (none))) else (some (a, c)) := by
  refine lU (spec_l20Log.l1L_is a b c) (LimIs.step1 (by simp only [spec_l20Log.l1]) ?_)
  simp only [spec_l20Log.l1]
  repeat' with_reducible first | exact lK _ | exact spec_l20Entry.fL_is .. | exact spec_l20Log.l1L_is .. | apply lI | apply lB | intro _
theorem spec_l20Log.fL_eq (s0_0 : List Int) (s0_1 a1 : Int) : spec_l20Log.fL s0_0 s0_1 a1 = (spec_l20Rd_pick.fL s0_0 s0_1 9).bind fun bt581 => (spec_l20Log.l0L a1 (([] : List (S138))) bt581.1 s0_0 bt581.2) := by
  refine lU (spec_l20Log.fL_is s0_0 s0_1 a1) ?_
  unfold spec_l20Log.f
  repeat' with_reducible first | exact lK _ | exact spec_l20Log.l0L_is .. | exact spec_l20Rd_pick.fL_is .. | apply lI | apply lB | intro _
/-! ### spec_l20Feed -/
section
variable (s0_0 : List Int) (s0_1 a1 : Int)
noncomputable def spec_l20Feed.fL : Option ((List (S29)) × (List (S75)) × Int) := Lim (spec_l20Feed.f · s0_0 s0_1 a1)
theorem spec_l20Feed.fL_is : LimIs (spec_l20Feed.f · s0_0 s0_1 a1) (spec_l20Feed.fL s0_0 s0_1 a1) := lM (fun k => spec_l20Feed.mono s0_0 s0_1 a1 k)
end
theorem spec_l20Feed.fL_eq (s0_0 : List Int) (s0_1 a1 : Int) : spec_l20Feed.fL s0_0 s0_1 a1 = (spec_l20Pairs.fL s0_0 s0_1 0).bind fun bt638 => ((spec_l20Sessions.fL s0_0 bt638.2 0).bind fun bt642 => ((spec_l20Log.fL s0_0 bt642.2 0).bind fun bt647 => ((spec_ChangesOf.fL (⟨#[]⟩ : ByteArray) (⟨#[]⟩ : ByteArray) bt638.1 bt642.1 false (⟨#[]⟩ : ByteArray) bt647.1).bind fun t651 => ((spec_l20Rd_odd.fL s0_0 bt647.2 a1).bind fun bt654 => (if bt654.1 = true then ((spec_l20Rd_pick.fL s0_0 bt654.2 4).bind fun bt656 => (if bt656.1 = 0 then ((some (([(⟨0, (⟨#[]⟩ : ByteArray), 0, 0⟩ : S75), (⟨24, (⟨#[98]⟩ : ByteArray), 0, 1⟩ : S75), (⟨23, (⟨#[98]⟩ : ByteArray), (-2), 0⟩ : S75), (⟨23, (⟨#[98]⟩ : ByteArray), 0, 1000⟩ : S75), (⟨23, (⟨#[66]⟩ : ByteArray), 0, 1⟩ : S75)] : List (S75)) : List (S75))).bind fun y658 => ((spec_l20Rd_pick.fL s0_0 bt656.2 5).bind fun bt661 => (if 0 ≤ bt661.1 then (if bt661.1 < (y658.length : Int) then (if t651.length < 3518437208883 then (some (bt638.1, (t651 ++ [(⟨(rd_T75 y658 bt661.1).f0, (rd_T75 y658 bt661.1).f1, (rd_T75 y658 bt661.1).f2, (rd_T75 y658 bt661.1).f3⟩ : S75)]), bt661.2)) else (none)) else (none)) else (none)))) else (if bt656.1 = 1 then (if t651.length + t651.length < 3518437208883 then (some (bt638.1, (t651 ++ t651), bt656.2)) else (none)) else (if bt656.1 = 2 then ((spec_l20Pairs.fL s0_0 bt656.2 2).bind fun bt670 => (some (bt670.1, t651, bt670.2))) else (if t651.length < 3518437208883 then (some (bt638.1, (t651 ++ [(⟨23, (⟨#[98]⟩ : ByteArray), 5, 6⟩ : S75)]), bt656.2)) else (none)))))) else (some (bt638.1, t651, bt654.2))))))) := by
  refine lU (spec_l20Feed.fL_is s0_0 s0_1 a1) ?_
  unfold spec_l20Feed.f
  repeat' with_reducible first | exact lK _ | exact spec_ChangesOf.fL_is .. | exact spec_l20Log.fL_is .. | exact spec_l20Pairs.fL_is .. | exact spec_l20Rd_odd.fL_is .. | exact spec_l20Rd_pick.fL_is .. | exact spec_l20Sessions.fL_is .. | apply lI | apply lB | intro _
/-! ### spec_DrawFeedFrom -/
section
variable (l0 : List Int)
noncomputable def spec_DrawFeedFrom.fL : Option ((List (S75)) × Int) := Lim (spec_DrawFeedFrom.f · l0)
theorem spec_DrawFeedFrom.fL_is : LimIs (spec_DrawFeedFrom.f · l0) (spec_DrawFeedFrom.fL l0) := lM (fun k => spec_DrawFeedFrom.mono l0 k)
end
theorem spec_DrawFeedFrom.fL_eq (l0 : List Int) : spec_DrawFeedFrom.fL l0 = (spec_l20Open.f l0).bind fun bt677 => ((spec_l20Feed.fL bt677.1 bt677.2 9).bind fun bt680 => ((spec_l20Rd_pick.fL bt677.1 bt680.2.2 12).bind fun bt687 => (some (bt680.2.1, wrap64 (bt687.1 - 1))))) := by
  refine lU (spec_DrawFeedFrom.fL_is l0) ?_
  unfold spec_DrawFeedFrom.f
  repeat' with_reducible first | exact lK _ | exact spec_l20Feed.fL_is .. | exact spec_l20Rd_pick.fL_is .. | apply lI | apply lB | intro _
/-! ### impl_FeedFrom -/
section
variable (a : Int) (b c : List (S75)) (d e : Int)
noncomputable def impl_FeedFrom.l0L : Option ((List (S75))) := Lim (impl_FeedFrom.l0 · a b c d e)
theorem impl_FeedFrom.l0L_is : LimIs (impl_FeedFrom.l0 · a b c d e) (impl_FeedFrom.l0L a b c d e) := lM (fun k => (impl_FeedFrom.mono_l k) a b c d e)
end
section
variable (l0 : List (S75)) (a1 : Int)
noncomputable def impl_FeedFrom.fL : Option ((List (S75))) := Lim (impl_FeedFrom.f · l0 a1)
theorem impl_FeedFrom.fL_is : LimIs (impl_FeedFrom.f · l0 a1) (impl_FeedFrom.fL l0 a1) := lM (fun k => impl_FeedFrom.mono l0 a1 k)
end
theorem impl_FeedFrom.l0L_eq (a : Int) (b c : List (S75)) (d e : Int) : impl_FeedFrom.l0L a b c d e = if e < d then (if 0 ≤ e then (if e < (c.length : Int) then (if ((rd_T75 c e).f0) ≥ a then (if b.length < 3518437208883 then (impl_FeedFrom.l0L a (b ++ [(⟨(rd_T75 c e).f0, (rd_T75 c e).f1, (rd_T75 c e).f2, (rd_T75 c e).f3⟩ : S75)]) c d (wrap64 (e + 1))) else (none)) else (impl_FeedFrom.l0L a b c d (wrap64 (e + 1)))) else (none)) else (none)) else (some b) := by
  refine lU (impl_FeedFrom.l0L_is a b c d e) (LimIs.step1 (by simp only [impl_FeedFrom.l0]) ?_)
  simp only [impl_FeedFrom.l0]
  repeat' with_reducible first | exact lK _ | exact impl_FeedFrom.l0L_is .. | apply lI | apply lB | intro _
theorem impl_FeedFrom.fL_eq (l0 : List (S75)) (a1 : Int) : impl_FeedFrom.fL l0 a1 = (impl_FeedValid.fL l0).bind fun t689 => (if t689 = true then (impl_FeedFrom.l0L a1 ([] : List (S75)) l0 (l0.length : Int) 0) else (some ([] : List (S75)))) := by
  refine lU (impl_FeedFrom.fL_is l0 a1) ?_
  unfold impl_FeedFrom.f
  repeat' with_reducible first | exact lK _ | exact impl_FeedFrom.l0L_is .. | exact impl_FeedValid.fL_is .. | apply lI | apply lB | intro _
/-! ### laws_sameFeed -/
section
variable (a b : List (S75)) (c : Int)
noncomputable def laws_sameFeed.l0L : Option (Bool) := Lim (laws_sameFeed.l0 · a b c)
theorem laws_sameFeed.l0L_is : LimIs (laws_sameFeed.l0 · a b c) (laws_sameFeed.l0L a b c) := lM (fun k => (laws_sameFeed.mono_l k) a b c)
end
section
variable (l0 l1 : List (S75))
noncomputable def laws_sameFeed.fL : Option (Bool) := Lim (laws_sameFeed.f · l0 l1)
theorem laws_sameFeed.fL_is : LimIs (laws_sameFeed.f · l0 l1) (laws_sameFeed.fL l0 l1) := lM (fun k => laws_sameFeed.mono l0 l1 k)
end
theorem laws_sameFeed.l0L_eq (a b : List (S75)) (c : Int) : laws_sameFeed.l0L a b c = if c < (a.length : Int) then (if 0 ≤ c then (if c < (b.length : Int) then (if (!(((rd_T75 a c).f0) == ((rd_T75 b c).f0)) || (!((((rd_T75 a c).f1).toList) == (((rd_T75 b c).f1).toList)) || (!(((rd_T75 a c).f2) == ((rd_T75 b c).f2)) || (!(((rd_T75 a c).f3) == ((rd_T75 b c).f3)))))) = true then (some false) else (laws_sameFeed.l0L a b (wrap64 (c + 1)))) else (none)) else (none)) else (some true) := by
  refine lU (laws_sameFeed.l0L_is a b c) (LimIs.step1 (by simp only [laws_sameFeed.l0]) ?_)
  simp only [laws_sameFeed.l0]
  repeat' with_reducible first | exact lK _ | exact laws_sameFeed.l0L_is .. | apply lI | apply lB | intro _
theorem laws_sameFeed.fL_eq (l0 l1 : List (S75)) : laws_sameFeed.fL l0 l1 = if (l0.length : Int) = (l1.length : Int) then (laws_sameFeed.l0L l0 l1 0) else (some false) := by
  refine lU (laws_sameFeed.fL_is l0 l1) ?_
  unfold laws_sameFeed.f
  repeat' with_reducible first | exact lK _ | exact laws_sameFeed.l0L_is .. | apply lI | apply lB | intro _
/-! ### spec_FeedValid -/
section
variable (a : List (S75)) (b : Int)
noncomputable def spec_FeedValid.l0L : Option (Bool) := Lim (spec_FeedValid.l0 · a b)
theorem spec_FeedValid.l0L_is : LimIs (spec_FeedValid.l0 · a b) (spec_FeedValid.l0L a b) := lM (fun k => (spec_FeedValid.mono_l k) a b)
end
section
variable (l0 : List (S75))
noncomputable def spec_FeedValid.fL : Option (Bool) := Lim (spec_FeedValid.f · l0)
theorem spec_FeedValid.fL_is : LimIs (spec_FeedValid.f · l0) (spec_FeedValid.fL l0) := lM (fun k => spec_FeedValid.mono l0 k)
end
theorem spec_FeedValid.l0L_eq (a : List (S75)) (b : Int) : spec_FeedValid.l0L a b = if b < (a.length : Int) then (if 0 ≤ b then (if b ≥ 24 then (some false) else ((spec_l1In.f ((rd_T75 a b).f0) 0 23).bind fun t699 => (if t699 = true then ((spec_KeyValid.fL ((rd_T75 a b).f1)).bind fun t700 => (if t700 = true then ((spec_l1In.f ((rd_T75 a b).f2) (-1) 999).bind fun t701 => (if t701 = true then ((spec_l1In.f ((rd_T75 a b).f3) (-1) 999).bind fun t702 => (if t702 = true then (if ((rd_T75 a b).f2) = ((rd_T75 a b).f3) then (some false) else (if b > 0 then (if 0 ≤ (wrap64 (b - 1)) then (if (wrap64 (b - 1)) < (a.length : Int) then (if ((rd_T75 a b).f0) ≤ ((rd_T75 a (wrap64 (b - 1))).f0) then (some false) else (spec_FeedValid.l0L a (wrap64 (b + 1)))) else (none)) else (none)) else (spec_FeedValid.l0L a (wrap64 (b + 1))))) else (some false))) else (some false))) else (some false))) else (some false)))) else (none)) else (some true) := by
  refine lU (spec_FeedValid.l0L_is a b) (LimIs.step1 (by simp only [spec_FeedValid.l0]) ?_)
  simp only [spec_FeedValid.l0]
  repeat' with_reducible first | exact lK _ | exact spec_FeedValid.l0L_is .. | exact spec_KeyValid.fL_is .. | apply lI | apply lB | intro _
theorem spec_FeedValid.fL_eq (l0 : List (S75)) : spec_FeedValid.fL l0 = spec_FeedValid.l0L l0 0 := by
  refine lU (spec_FeedValid.fL_is l0) ?_
  unfold spec_FeedValid.f
  repeat' with_reducible first | exact lK _ | exact spec_FeedValid.l0L_is .. | apply lI | apply lB | intro _
/-! ### spec_FeedFrom -/
section
variable (a : List (S75)) (b : Int) (c : List (S75)) (d : Int)
noncomputable def spec_FeedFrom.l0L : Option ((List (S75))) := Lim (spec_FeedFrom.l0 · a b c d)
theorem spec_FeedFrom.l0L_is : LimIs (spec_FeedFrom.l0 · a b c d) (spec_FeedFrom.l0L a b c d) := lM (fun k => (spec_FeedFrom.mono_l k).1 a b c d)
end
section
variable (a : List (S75)) (b : Int) (c : List (S75)) (d : Int) (e : Bool)
noncomputable def spec_FeedFrom.j1L : Option ((List (S75))) := Lim (spec_FeedFrom.j1 · a b c d e)
theorem spec_FeedFrom.j1L_is : LimIs (spec_FeedFrom.j1 · a b c d e) (spec_FeedFrom.j1L a b c d e) := lM (fun k => (spec_FeedFrom.mono_l k).2 a b c d e)
end
section
variable (l0 : List (S75)) (a1 : Int)
noncomputable def spec_FeedFrom.fL : Option ((List (S75))) := Lim (spec_FeedFrom.f · l0 a1)
theorem spec_FeedFrom.fL_is : LimIs (spec_FeedFrom.f · l0 a1) (spec_FeedFrom.fL l0 a1) := lM (fun k => spec_FeedFrom.mono l0 a1 k)
end
theorem spec_FeedFrom.l0L_eq (a : List (S75)) (b : Int) (c : List (S75)) (d : Int) : spec_FeedFrom.l0L a b c d = if d < (a.length : Int) then ((spec_FeedValid.fL a).bind fun t707 => (spec_FeedFrom.j1L a b c d t707)) else (spec_FeedFrom.j1L a b c d false) := by
  refine lU (spec_FeedFrom.l0L_is a b c d) (LimIs.step1 (by simp only [spec_FeedFrom.l0]) ?_)
  simp only [spec_FeedFrom.l0]
  repeat' with_reducible first | exact lK _ | exact spec_FeedFrom.j1L_is .. | exact spec_FeedValid.fL_is .. | apply lI | apply lB | intro _
theorem spec_FeedFrom.j1L_eq (a : List (S75)) (b : Int) (c : List (S75)) (d : Int) (e : Bool) : spec_FeedFrom.j1L a b c d e = if e = true then (if 0 ≤ d then (if d < (a.length : Int) then (if ((rd_T75 a d).f0) ≥ b then (if c.length < 3518437208883 then (spec_FeedFrom.l0L a b (c ++ [(⟨(rd_T75 a d).f0, (rd_T75 a d).f1, (rd_T75 a d).f2, (rd_T75 a d).f3⟩ : S75)]) (wrap64 (d + 1))) else (none)) else (spec_FeedFrom.l0L a b c (wrap64 (d + 1)))) else (none)) else (none)) else (some c) := by
  refine lU (spec_FeedFrom.j1L_is a b c d e) (LimIs.step1 (by simp only [spec_FeedFrom.j1]) ?_)
  simp only [spec_FeedFrom.j1]
  repeat' with_reducible first | exact lK _ | exact spec_FeedFrom.l0L_is .. | apply lI | apply lB | intro _
theorem spec_FeedFrom.fL_eq (l0 : List (S75)) (a1 : Int) : spec_FeedFrom.fL l0 a1 = spec_FeedFrom.l0L l0 a1 (([] : List (S75))) 0 := by
  refine lU (spec_FeedFrom.fL_is l0 a1) ?_
  unfold spec_FeedFrom.f
  repeat' with_reducible first | exact lK _ | exact spec_FeedFrom.l0L_is .. | apply lI | apply lB | intro _
/-! ### laws_FnFeedFrom -/
section
variable (a : List (S75)) (b : Bool)
noncomputable def laws_FnFeedFrom.j0L : Option (Bool) := Lim (laws_FnFeedFrom.j0 · a b)
theorem laws_FnFeedFrom.j0L_is : LimIs (laws_FnFeedFrom.j0 · a b) (laws_FnFeedFrom.j0L a b) := lM (fun k => (laws_FnFeedFrom.mono_l k) a b)
end
section
variable (l0 : List Int)
noncomputable def laws_FnFeedFrom.fL : Option (Bool) := Lim (laws_FnFeedFrom.f · l0)
theorem laws_FnFeedFrom.fL_is : LimIs (laws_FnFeedFrom.f · l0) (laws_FnFeedFrom.fL l0) := lM (fun k => laws_FnFeedFrom.mono l0 k)
end
theorem laws_FnFeedFrom.j0L_eq (a : List (S75)) (b : Bool) : laws_FnFeedFrom.j0L a b = if b = true then (some false) else ((impl_FeedFrom.fL a 0).bind fun t734 => ((laws_sameFeed.fL t734 a).bind fun t737 => (if t737 = true then ((laws_alive.fL).bind fun t738 => (some t738)) else (some false)))) := by
  refine lU (laws_FnFeedFrom.j0L_is a b) (LimIs.step1 (by simp only [laws_FnFeedFrom.j0]) ?_)
  simp only [laws_FnFeedFrom.j0]
  repeat' with_reducible first | exact lK _ | exact impl_FeedFrom.fL_is .. | exact laws_alive.fL_is .. | exact laws_sameFeed.fL_is .. | apply lI | apply lB | intro _
theorem laws_FnFeedFrom.fL_eq (l0 : List Int) : laws_FnFeedFrom.fL l0 = if (l0.length : Int) > 1048576 then (some true) else ((spec_DrawFeedFrom.fL l0).bind fun bt713 => ((impl_FeedFrom.fL bt713.1 bt713.2).bind fun t717 => ((spec_FeedFrom.fL bt713.1 bt713.2).bind fun t720 => ((laws_sameFeed.fL t717 t720).bind fun t723 => (if t723 = true then ((impl_FeedValid.fL bt713.1).bind fun t724 => (if t724 = true then (if (wrap64 ((bt713.1.length : Int) - (t717.length : Int))) < 0 then (laws_FnFeedFrom.j0L bt713.1 true) else (if 0 ≤ (wrap64 ((bt713.1.length : Int) - (t717.length : Int))) then (if (wrap64 ((bt713.1.length : Int) - (t717.length : Int))) ≤ (bt713.1.length : Int) then ((laws_sameFeed.fL (bt713.1.drop ((wrap64 ((bt713.1.length : Int) - (t717.length : Int))) : Int).toNat) t717).bind fun t730 => (if t730 = true then (if (t717.length : Int) > 0 then (if 0 < (t717.length : Int) then (if ((rd_T75 t717 0).f0) < bt713.2 then (laws_FnFeedFrom.j0L bt713.1 true) else (if (wrap64 ((bt713.1.length : Int) - (t717.length : Int))) > 0 then (if 0 ≤ (wrap64 ((wrap64 ((bt713.1.length : Int) - (t717.length : Int))) - 1)) then (if (wrap64 ((wrap64 ((bt713.1.length : Int) - (t717.length : Int))) - 1)) < (bt713.1.length : Int) then (laws_FnFeedFrom.j0L bt713.1 (decide (((rd_T75 bt713.1 (wrap64 ((wrap64 ((bt713.1.length : Int) - (t717.length : Int))) - 1))).f0) ≥ bt713.2))) else (none)) else (none)) else (laws_FnFeedFrom.j0L bt713.1 false))) else (none)) else (if (wrap64 ((bt713.1.length : Int) - (t717.length : Int))) > 0 then (if 0 ≤ (wrap64 ((wrap64 ((bt713.1.length : Int) - (t717.length : Int))) - 1)) then (if (wrap64 ((wrap64 ((bt713.1.length : Int) - (t717.length : Int))) - 1)) < (bt713.1.length : Int) then (laws_FnFeedFrom.j0L bt713.1 (decide (((rd_T75 bt713.1 (wrap64 ((wrap64 ((bt713.1.length : Int) - (t717.length : Int))) - 1))).f0) ≥ bt713.2))) else (none)) else (none)) else (laws_FnFeedFrom.j0L bt713.1 false))) else (laws_FnFeedFrom.j0L bt713.1 true))) else (none)) else (none))) else (if (t717.length : Int) = 0 then ((laws_alive.fL).bind fun t725 => (some t725)) else (some false)))) else (some false)))))) := by
  refine lU (laws_FnFeedFrom.fL_is l0) ?_
  unfold laws_FnFeedFrom.f
  repeat' with_reducible first | exact lK _ | exact impl_FeedFrom.fL_is .. | exact impl_FeedValid.fL_is .. | exact laws_FnFeedFrom.j0L_is .. | exact laws_alive.fL_is .. | exact laws_sameFeed.fL_is .. | exact spec_DrawFeedFrom.fL_is .. | exact spec_FeedFrom.fL_is .. | apply lI | apply lB | intro _
end Go.Proofs.Ytfeeifefmenlmaa.PFnFeedFrom
