/- The limits of the printed functions, and their equations. Written by lim.py out of the print. No condition. -/
import Derived.Test.YtfeeifefmenlmaaPFnUndoFeedx20
import Derived.Test.YtfeeifefmenlmaaLim
namespace Go.Proofs.Ytfeeifefmenlmaa.PFnUndoFeed
open Go.RowKit Go.Proofs.YtfeeifefmenlmaaW.PrintWords Go.Proofs.YtfeeifefmenlmaaW.PrintLast Go.Proofs.YtfeeifefmenlmaaW.PrintMore Go.Proofs.Ytfeeifefmenlmaa.Lim
set_option linter.unusedVariables false

/-! ### impl_lettersOnly -/
noncomputable def impl_lettersOnly.fL (a0 : ByteArray) : Option (Bool) := Lim (fun k => impl_lettersOnly.f k a0)
theorem impl_lettersOnly.fL_is (a0 : ByteArray) : LimIs (fun k => impl_lettersOnly.f k a0) (impl_lettersOnly.fL a0) := LimIs.of_mono (fun k r h => impl_lettersOnly.mono a0 k r h)
theorem impl_lettersOnly.fL_eq (a0 : ByteArray) : impl_lettersOnly.fL a0 = if a0.toList = ([] : List UInt8) then (some true) else (if 0 < (a0.size : Int) then (if (bt a0 0) ≥ 97 then (if (bt a0 0) ≤ 122 then (if 1 ≤ (a0.size : Int) then ((impl_lettersOnly.fL (a0.extract 1 a0.size)).bind fun t101 => (some t101)) else (none)) else (some false)) else (some false)) else (none)) := by
  refine lU (impl_lettersOnly.fL_is a0) (LimIs.step1 (by simp only [impl_lettersOnly.f]) ?_)
  simp only [impl_lettersOnly.f]
  repeat' with_reducible first | exact lK _ | exact impl_lettersOnly.fL_is .. | apply lI | apply lB | intro _
/-! ### impl_KeyValid -/
noncomputable def impl_KeyValid.fL (a0 : ByteArray) : Option (Bool) := Lim (fun k => impl_KeyValid.f k a0)
theorem impl_KeyValid.fL_is (a0 : ByteArray) : LimIs (fun k => impl_KeyValid.f k a0) (impl_KeyValid.fL a0) := LimIs.of_mono (fun k r h => impl_KeyValid.mono a0 k r h)
theorem impl_KeyValid.fL_eq (a0 : ByteArray) : impl_KeyValid.fL a0 = if (a0.size : Int) < 1 then (some false) else (if (a0.size : Int) > 4 then (some false) else ((impl_lettersOnly.fL a0).bind fun t102 => (some t102))) := by
  refine lU (impl_KeyValid.fL_is a0) ?_
  unfold impl_KeyValid.f
  repeat' with_reducible first | exact lK _ | exact impl_lettersOnly.fL_is .. | apply lI | apply lB | intro _
/-! ### impl_keysFrom -/
noncomputable def impl_keysFrom.fL (a0 : Int) : Option (Int) := Lim (fun k => impl_keysFrom.f k a0)
theorem impl_keysFrom.fL_is (a0 : Int) : LimIs (fun k => impl_keysFrom.f k a0) (impl_keysFrom.fL a0) := LimIs.of_mono (fun k r h => impl_keysFrom.mono a0 k r h)
theorem impl_keysFrom.fL_eq (a0 : Int) : impl_keysFrom.fL a0 = if a0 ≥ 4 then (some 1) else ((impl_keysFrom.fL (wrap64 (a0 + 1))).bind fun t103 => (some (wrap64 (1 + (wrap64 (26 * t103)))))) := by
  refine lU (impl_keysFrom.fL_is a0) (LimIs.step1 (by simp only [impl_keysFrom.f]) ?_)
  simp only [impl_keysFrom.f]
  repeat' with_reducible first | exact lK _ | exact impl_keysFrom.fL_is .. | apply lI | apply lB | intro _
/-! ### impl_rankBelow -/
noncomputable def impl_rankBelow.fL (a0 : ByteArray) (a1 : Int) : Option (Int) := Lim (fun k => impl_rankBelow.f k a0 a1)
theorem impl_rankBelow.fL_is (a0 : ByteArray) (a1 : Int) : LimIs (fun k => impl_rankBelow.f k a0 a1) (impl_rankBelow.fL a0 a1) := LimIs.of_mono (fun k r h => impl_rankBelow.mono a0 a1 k r h)
theorem impl_rankBelow.fL_eq (a0 : ByteArray) (a1 : Int) : impl_rankBelow.fL a0 a1 = if a0.toList = ([] : List UInt8) then (some 0) else (if 0 < (a0.size : Int) then ((impl_keysFrom.fL a1).bind fun t104 => (if 1 ≤ (a0.size : Int) then ((impl_rankBelow.fL (a0.extract 1 a0.size) (wrap64 (a1 + 1))).bind fun t105 => (some (wrap64 ((wrap64 (1 + (wrap64 ((((bt a0 0) - 97) % 256) * t104)))) + t105)))) else (none))) else (none)) := by
  refine lU (impl_rankBelow.fL_is a0 a1) (LimIs.step1 (by simp only [impl_rankBelow.f]) ?_)
  simp only [impl_rankBelow.f]
  repeat' with_reducible first | exact lK _ | exact impl_keysFrom.fL_is .. | exact impl_rankBelow.fL_is .. | apply lI | apply lB | intro _
/-! ### impl_KeyRank -/
noncomputable def impl_KeyRank.fL (a0 : ByteArray) : Option (Int) := Lim (fun k => impl_KeyRank.f k a0)
theorem impl_KeyRank.fL_is (a0 : ByteArray) : LimIs (fun k => impl_KeyRank.f k a0) (impl_KeyRank.fL a0) := LimIs.of_mono (fun k r h => impl_KeyRank.mono a0 k r h)
theorem impl_KeyRank.fL_eq (a0 : ByteArray) : impl_KeyRank.fL a0 = (impl_KeyValid.fL a0).bind fun t106 => (if t106 = true then ((impl_rankBelow.fL a0 1).bind fun t107 => (some (wrap64 (t107 - 1)))) else (some (-1))) := by
  refine lU (impl_KeyRank.fL_is a0) ?_
  unfold impl_KeyRank.f
  repeat' with_reducible first | exact lK _ | exact impl_KeyValid.fL_is .. | exact impl_rankBelow.fL_is .. | apply lI | apply lB | intro _
/-! ### laws_alive -/
noncomputable def laws_alive.fL : Option (Bool) := Lim (fun k => laws_alive.f k)
theorem laws_alive.fL_is : LimIs (fun k => laws_alive.f k) (laws_alive.fL) := LimIs.of_mono (fun k r h => laws_alive.mono k r h)
theorem laws_alive.fL_eq : laws_alive.fL = (impl_KeyRank.fL (⟨#[97, 97]⟩ : ByteArray)).bind fun t108 => (if t108 = 1 then ((impl_KeyRank.fL (⟨#[]⟩ : ByteArray)).bind fun t109 => (some (t109 == (-1)))) else (some false)) := by
  refine lU (laws_alive.fL_is) ?_
  unfold laws_alive.f
  repeat' with_reducible first | exact lK _ | exact impl_KeyRank.fL_is .. | apply lI | apply lB | intro _
/-! ### impl_FeedValid -/
noncomputable def impl_FeedValid.l0L (a b : List (S75)) (c d : Int) : Option (Bool) := Lim (fun k => impl_FeedValid.l0 k a b c d)
theorem impl_FeedValid.l0L_is (a b : List (S75)) (c d : Int) : LimIs (fun k => impl_FeedValid.l0 k a b c d) (impl_FeedValid.l0L a b c d) := LimIs.of_mono (fun k r h => (impl_FeedValid.mono_l k).1 a b c d r h)
noncomputable def impl_FeedValid.j1L (a : List (S75)) (b : Int) (c : List (S75)) (d e : Int) (g : Bool) (i : Int) (j : ByteArray) (l m : Int) : Option (Bool) := Lim (fun k => impl_FeedValid.j1 k a b c d e g i j l m)
theorem impl_FeedValid.j1L_is (a : List (S75)) (b : Int) (c : List (S75)) (d e : Int) (g : Bool) (i : Int) (j : ByteArray) (l m : Int) : LimIs (fun k => impl_FeedValid.j1 k a b c d e g i j l m) (impl_FeedValid.j1L a b c d e g i j l m) := LimIs.of_mono (fun k r h => (impl_FeedValid.mono_l k).2.1 a b c d e g i j l m r h)
noncomputable def impl_FeedValid.j2L (a : List (S75)) (b : Int) (c : List (S75)) (d e : Int) (f : Bool) (g : Int) (i : ByteArray) (j l : Int) : Option (Bool) := Lim (fun k => impl_FeedValid.j2 k a b c d e f g i j l)
theorem impl_FeedValid.j2L_is (a : List (S75)) (b : Int) (c : List (S75)) (d e : Int) (f : Bool) (g : Int) (i : ByteArray) (j l : Int) : LimIs (fun k => impl_FeedValid.j2 k a b c d e f g i j l) (impl_FeedValid.j2L a b c d e f g i j l) := LimIs.of_mono (fun k r h => (impl_FeedValid.mono_l k).2.2 a b c d e f g i j l r h)
noncomputable def impl_FeedValid.fL (l0 : List (S75)) : Option (Bool) := Lim (fun k => impl_FeedValid.f k l0)
theorem impl_FeedValid.fL_is (l0 : List (S75)) : LimIs (fun k => impl_FeedValid.f k l0) (impl_FeedValid.fL l0) := LimIs.of_mono (fun k r h => impl_FeedValid.mono l0 k r h)
theorem impl_FeedValid.l0L_eq (a b : List (S75)) (c d : Int) : impl_FeedValid.l0L a b c d = if d < c then (if 0 ≤ d then (if d < (b.length : Int) then (if ((rd_T75 b d).f0) < 0 then (impl_FeedValid.j1L a d b c d true ((rd_T75 b d).f0) ((rd_T75 b d).f1) ((rd_T75 b d).f2) ((rd_T75 b d).f3)) else (if ((rd_T75 b d).f0) ≥ 24 then (impl_FeedValid.j1L a d b c d true ((rd_T75 b d).f0) ((rd_T75 b d).f1) ((rd_T75 b d).f2) ((rd_T75 b d).f3)) else ((impl_KeyValid.fL ((rd_T75 b d).f1)).bind fun t112 => (if t112 = true then (impl_FeedValid.j1L a d b c d (((rd_T75 b d).f2) == ((rd_T75 b d).f3)) ((rd_T75 b d).f0) ((rd_T75 b d).f1) ((rd_T75 b d).f2) ((rd_T75 b d).f3)) else (impl_FeedValid.j1L a d b c d true ((rd_T75 b d).f0) ((rd_T75 b d).f1) ((rd_T75 b d).f2) ((rd_T75 b d).f3)))))) else (none)) else (none)) else (some true) := by
  refine lU (impl_FeedValid.l0L_is a b c d) (LimIs.step1 (by simp only [impl_FeedValid.l0]) ?_)
  simp only [impl_FeedValid.l0]
  repeat' with_reducible first | exact lK _ | exact impl_FeedValid.j1L_is .. | exact impl_KeyValid.fL_is .. | apply lI | apply lB | intro _
theorem impl_FeedValid.j1L_eq (a : List (S75)) (b : Int) (c : List (S75)) (d e : Int) (g : Bool) (i : Int) (j : ByteArray) (l m : Int) : impl_FeedValid.j1L a b c d e g i j l m = if g = true then (some false) else (if l = (-1) then (if m = (-1) then (impl_FeedValid.j2L a b c d e false i j l m) else ((impl_valueValid.f m).bind fun t113 => (impl_FeedValid.j2L a b c d e (!t113) i j l m))) else ((impl_valueValid.f l).bind fun t114 => (if t114 = true then (if m = (-1) then (impl_FeedValid.j2L a b c d e false i j l m) else ((impl_valueValid.f m).bind fun t115 => (impl_FeedValid.j2L a b c d e (!t115) i j l m))) else (impl_FeedValid.j2L a b c d e true i j l m)))) := by
  refine lU (impl_FeedValid.j1L_is a b c d e g i j l m) (LimIs.step1 (by simp only [impl_FeedValid.j1]) ?_)
  simp only [impl_FeedValid.j1]
  repeat' with_reducible first | exact lK _ | exact impl_FeedValid.j2L_is .. | apply lI | apply lB | intro _
theorem impl_FeedValid.j2L_eq (a : List (S75)) (b : Int) (c : List (S75)) (d e : Int) (f : Bool) (g : Int) (i : ByteArray) (j l : Int) : impl_FeedValid.j2L a b c d e f g i j l = if f = true then (some false) else (if b > 0 then (if 0 ≤ (wrap64 (b - 1)) then (if (wrap64 (b - 1)) < (a.length : Int) then (if ((rd_T75 a (wrap64 (b - 1))).f0) ≥ g then (some false) else (impl_FeedValid.l0L a c d (wrap64 (e + 1)))) else (none)) else (none)) else (impl_FeedValid.l0L a c d (wrap64 (e + 1)))) := by
  refine lU (impl_FeedValid.j2L_is a b c d e f g i j l) (LimIs.step1 (by simp only [impl_FeedValid.j2]) ?_)
  simp only [impl_FeedValid.j2]
  repeat' with_reducible first | exact lK _ | exact impl_FeedValid.l0L_is .. | apply lI | apply lB | intro _
theorem impl_FeedValid.fL_eq (l0 : List (S75)) : impl_FeedValid.fL l0 = if (l0.length : Int) > 24 then (some false) else (impl_FeedValid.l0L l0 l0 (l0.length : Int) 0) := by
  refine lU (impl_FeedValid.fL_is l0) ?_
  unfold impl_FeedValid.f
  repeat' with_reducible first | exact lK _ | exact impl_FeedValid.l0L_is .. | apply lI | apply lB | intro _
/-! ### laws_sameFeed -/
noncomputable def laws_sameFeed.l0L (a b : List (S75)) (c : Int) : Option (Bool) := Lim (fun k => laws_sameFeed.l0 k a b c)
theorem laws_sameFeed.l0L_is (a b : List (S75)) (c : Int) : LimIs (fun k => laws_sameFeed.l0 k a b c) (laws_sameFeed.l0L a b c) := LimIs.of_mono (fun k r h => (laws_sameFeed.mono_l k) a b c r h)
noncomputable def laws_sameFeed.fL (l0 l1 : List (S75)) : Option (Bool) := Lim (fun k => laws_sameFeed.f k l0 l1)
theorem laws_sameFeed.fL_is (l0 l1 : List (S75)) : LimIs (fun k => laws_sameFeed.f k l0 l1) (laws_sameFeed.fL l0 l1) := LimIs.of_mono (fun k r h => laws_sameFeed.mono l0 l1 k r h)
theorem laws_sameFeed.l0L_eq (a b : List (S75)) (c : Int) : laws_sameFeed.l0L a b c = if c < (a.length : Int) then (if 0 ≤ c then (if c < (b.length : Int) then (if (!(((rd_T75 a c).f0) == ((rd_T75 b c).f0)) || (!((((rd_T75 a c).f1).toList) == (((rd_T75 b c).f1).toList)) || (!(((rd_T75 a c).f2) == ((rd_T75 b c).f2)) || (!(((rd_T75 a c).f3) == ((rd_T75 b c).f3)))))) = true then (some false) else (laws_sameFeed.l0L a b (wrap64 (c + 1)))) else (none)) else (none)) else (some true) := by
  refine lU (laws_sameFeed.l0L_is a b c) (LimIs.step1 (by simp only [laws_sameFeed.l0]) ?_)
  simp only [laws_sameFeed.l0]
  repeat' with_reducible first | exact lK _ | exact laws_sameFeed.l0L_is .. | apply lI | apply lB | intro _
theorem laws_sameFeed.fL_eq (l0 l1 : List (S75)) : laws_sameFeed.fL l0 l1 = if (l0.length : Int) = (l1.length : Int) then (laws_sameFeed.l0L l0 l1 0) else (some false) := by
  refine lU (laws_sameFeed.fL_is l0 l1) ?_
  unfold laws_sameFeed.f
  repeat' with_reducible first | exact lK _ | exact laws_sameFeed.l0L_is .. | apply lI | apply lB | intro _
/-! ### spec_l20Rd_pick -/
noncomputable def spec_l20Rd_pick.j0L (a : Int) (b : Bool) (c : List Int) (d : Int) : Option (Int × Int) := Lim (fun k => spec_l20Rd_pick.j0 k a b c d)
theorem spec_l20Rd_pick.j0L_is (a : Int) (b : Bool) (c : List Int) (d : Int) : LimIs (fun k => spec_l20Rd_pick.j0 k a b c d) (spec_l20Rd_pick.j0L a b c d) := LimIs.of_mono (fun k r h => (spec_l20Rd_pick.mono_l k) a b c d r h)
noncomputable def spec_l20Rd_pick.fL (s0_0 : List Int) (s0_1 a1 : Int) : Option (Int × Int) := Lim (fun k => spec_l20Rd_pick.f k s0_0 s0_1 a1)
theorem spec_l20Rd_pick.fL_is (s0_0 : List Int) (s0_1 a1 : Int) : LimIs (fun k => spec_l20Rd_pick.f k s0_0 s0_1 a1) (spec_l20Rd_pick.fL s0_0 s0_1 a1) := LimIs.of_mono (fun k r h => spec_l20Rd_pick.mono s0_0 s0_1 a1 k r h)
theorem spec_l20Rd_pick.j0L_eq (a : Int) (b : Bool) (c : List Int) (d : Int) : spec_l20Rd_pick.j0L a b c d = if b = true then (some (0, d)) else (if (wrap64 (d - 1)) < (c.length : Int) then (if 0 ≤ (wrap64 (d - 1)) then (if a = 0 then (none) else (some (Int.tmod (wrap64 (rd c (wrap64 (d - 1)))) a, d))) else (none)) else (if (c.length : Int) = 0 then (none) else (if 0 ≤ (Int.tmod (wrap64 (d - 1)) (c.length : Int)) then (if (Int.tmod (wrap64 (d - 1)) (c.length : Int)) < (c.length : Int) then (if 0 ≤ (Int.tmod (wrap64 ((wrap64 ((wrap64 (d - 1)) * 7)) + 3)) (c.length : Int)) then (if (Int.tmod (wrap64 ((wrap64 ((wrap64 (d - 1)) * 7)) + 3)) (c.length : Int)) < (c.length : Int) then (if a = 0 then (none) else (some (Int.tmod (Go.bits .xor .i64 (wrap64 ((wrap64 ((wrap64 ((wrap64 ((wrap64 (rd c (Int.tmod (wrap64 (d - 1)) (c.length : Int)))) * 131)) + (wrap64 ((wrap64 (rd c (Int.tmod (wrap64 ((wrap64 ((wrap64 (d - 1)) * 7)) + 3)) (c.length : Int)))) * 1117)))) + (wrap64 ((wrap64 (d - 1)) * 29)))) + (wrap64 ((wrap64 (Int.tdiv (wrap64 (d - 1)) (c.length : Int))) * 53)))) (wrap64 (Int.tdiv (wrap64 ((wrap64 ((wrap64 ((wrap64 ((wrap64 (rd c (Int.tmod (wrap64 (d - 1)) (c.length : Int)))) * 131)) + (wrap64 ((wrap64 (rd c (Int.tmod (wrap64 ((wrap64 ((wrap64 (d - 1)) * 7)) + 3)) (c.length : Int)))) * 1117)))) + (wrap64 ((wrap64 (d - 1)) * 29)))) + (wrap64 ((wrap64 (Int.tdiv (wrap64 (d - 1)) (c.length : Int))) * 53)))) 64))) a, d))) else (none)) else (none)) else (none)) else (none)))) := by
  refine lU (spec_l20Rd_pick.j0L_is a b c d) (LimIs.step1 (by simp only [spec_l20Rd_pick.j0]) ?_)
  simp only [spec_l20Rd_pick.j0]
  repeat' with_reducible first | exact lK _ | apply lI | apply lB | intro _
theorem spec_l20Rd_pick.fL_eq (s0_0 : List Int) (s0_1 a1 : Int) : spec_l20Rd_pick.fL s0_0 s0_1 a1 = if a1 < 1 then (spec_l20Rd_pick.j0L a1 true s0_0 (wrap64 (s0_1 + 1))) else (spec_l20Rd_pick.j0L a1 ((s0_0.length : Int) == 0) s0_0 (wrap64 (s0_1 + 1))) := by
  refine lU (spec_l20Rd_pick.fL_is s0_0 s0_1 a1) ?_
  unfold spec_l20Rd_pick.f
  repeat' with_reducible first | exact lK _ | exact spec_l20Rd_pick.j0L_is .. | apply lI | apply lB | intro _
/-! ### spec_KeyValid -/
noncomputable def spec_KeyValid.l0L (a : ByteArray) (b : Int) : Option (Bool) := Lim (fun k => spec_KeyValid.l0 k a b)
theorem spec_KeyValid.l0L_is (a : ByteArray) (b : Int) : LimIs (fun k => spec_KeyValid.l0 k a b) (spec_KeyValid.l0L a b) := LimIs.of_mono (fun k r h => (spec_KeyValid.mono_l k) a b r h)
noncomputable def spec_KeyValid.fL (a0 : ByteArray) : Option (Bool) := Lim (fun k => spec_KeyValid.f k a0)
theorem spec_KeyValid.fL_is (a0 : ByteArray) : LimIs (fun k => spec_KeyValid.f k a0) (spec_KeyValid.fL a0) := LimIs.of_mono (fun k r h => spec_KeyValid.mono a0 k r h)
theorem spec_KeyValid.l0L_eq (a : ByteArray) (b : Int) : spec_KeyValid.l0L a b = if b < (a.size : Int) then (if 0 ≤ b then (if (bt a b) < 97 then (some false) else (if (bt a b) > 122 then (some false) else (spec_KeyValid.l0L a (wrap64 (b + 1))))) else (none)) else (some true) := by
  refine lU (spec_KeyValid.l0L_is a b) (LimIs.step1 (by simp only [spec_KeyValid.l0]) ?_)
  simp only [spec_KeyValid.l0]
  repeat' with_reducible first | exact lK _ | exact spec_KeyValid.l0L_is .. | apply lI | apply lB | intro _
theorem spec_KeyValid.fL_eq (a0 : ByteArray) : spec_KeyValid.fL a0 = (spec_l1In.f (a0.size : Int) 1 4).bind fun t128 => (if t128 = true then (spec_KeyValid.l0L a0 0) else (some false)) := by
  refine lU (spec_KeyValid.fL_is a0) ?_
  unfold spec_KeyValid.f
  repeat' with_reducible first | exact lK _ | exact spec_KeyValid.l0L_is .. | apply lI | apply lB | intro _
/-! ### spec_PairsValid -/
noncomputable def spec_PairsValid.l0L (a : List (S29)) (b : Int) : Option (Bool) := Lim (fun k => spec_PairsValid.l0 k a b)
theorem spec_PairsValid.l0L_is (a : List (S29)) (b : Int) : LimIs (fun k => spec_PairsValid.l0 k a b) (spec_PairsValid.l0L a b) := LimIs.of_mono (fun k r h => (spec_PairsValid.mono_l k) a b r h)
noncomputable def spec_PairsValid.fL (l0 : List (S29)) : Option (Bool) := Lim (fun k => spec_PairsValid.f k l0)
theorem spec_PairsValid.fL_is (l0 : List (S29)) : LimIs (fun k => spec_PairsValid.f k l0) (spec_PairsValid.fL l0) := LimIs.of_mono (fun k r h => spec_PairsValid.mono l0 k r h)
theorem spec_PairsValid.l0L_eq (a : List (S29)) (b : Int) : spec_PairsValid.l0L a b = if b < (a.length : Int) then (if 0 ≤ b then ((spec_KeyValid.fL ((rd_T29 a b).f0)).bind fun t130 => (if t130 = true then ((spec_l1In.f ((rd_T29 a b).f1) 0 999).bind fun t132 => (if t132 = true then (if b > 0 then (if 0 ≤ (wrap64 (b - 1)) then (if (wrap64 (b - 1)) < (a.length : Int) then (if ((Op.bytesLess (((rd_T29 a (wrap64 (b - 1))).f0).toList) (((rd_T29 a b).f0).toList)) = true) then (spec_PairsValid.l0L a (wrap64 (b + 1))) else (some false)) else (none)) else (none)) else (spec_PairsValid.l0L a (wrap64 (b + 1)))) else (some false))) else (some false))) else (none)) else (some true) := by
  refine lU (spec_PairsValid.l0L_is a b) (LimIs.step1 (by simp only [spec_PairsValid.l0]) ?_)
  simp only [spec_PairsValid.l0]
  repeat' with_reducible first | exact lK _ | exact spec_KeyValid.fL_is .. | exact spec_PairsValid.l0L_is .. | apply lI | apply lB | intro _
theorem spec_PairsValid.fL_eq (l0 : List (S29)) : spec_PairsValid.fL l0 = if (l0.length : Int) > 48 then (some false) else (spec_PairsValid.l0L l0 0) := by
  refine lU (spec_PairsValid.fL_is l0) ?_
  unfold spec_PairsValid.f
  repeat' with_reducible first | exact lK _ | exact spec_PairsValid.l0L_is .. | apply lI | apply lB | intro _
/-! ### spec_l4Place -/
noncomputable def spec_l4Place.l0L (a : List (S29)) (b : ByteArray) (c : Int) : Option (Int) := Lim (fun k => spec_l4Place.l0 k a b c)
theorem spec_l4Place.l0L_is (a : List (S29)) (b : ByteArray) (c : Int) : LimIs (fun k => spec_l4Place.l0 k a b c) (spec_l4Place.l0L a b c) := LimIs.of_mono (fun k r h => (spec_l4Place.mono_l k) a b c r h)
noncomputable def spec_l4Place.fL (l0 : List (S29)) (a1 : ByteArray) : Option (Int) := Lim (fun k => spec_l4Place.f k l0 a1)
theorem spec_l4Place.fL_is (l0 : List (S29)) (a1 : ByteArray) : LimIs (fun k => spec_l4Place.f k l0 a1) (spec_l4Place.fL l0 a1) := LimIs.of_mono (fun k r h => spec_l4Place.mono l0 a1 k r h)
theorem spec_l4Place.l0L_eq (a : List (S29)) (b : ByteArray) (c : Int) : spec_l4Place.l0L a b c = if c < (a.length : Int) then (if 0 ≤ c then (if (Op.bytesLess (((rd_T29 a c).f0).toList) b.toList) = true then (spec_l4Place.l0L a b (wrap64 (c + 1))) else (some c)) else (none)) else (some c) := by
  refine lU (spec_l4Place.l0L_is a b c) (LimIs.step1 (by simp only [spec_l4Place.l0]) ?_)
  simp only [spec_l4Place.l0]
  repeat' with_reducible first | exact lK _ | exact spec_l4Place.l0L_is .. | apply lI | apply lB | intro _
theorem spec_l4Place.fL_eq (l0 : List (S29)) (a1 : ByteArray) : spec_l4Place.fL l0 a1 = spec_l4Place.l0L l0 a1 0 := by
  refine lU (spec_l4Place.fL_is l0 a1) ?_
  unfold spec_l4Place.f
  repeat' with_reducible first | exact lK _ | exact spec_l4Place.l0L_is .. | apply lI | apply lB | intro _
/-! ### spec_PairPut -/
noncomputable def spec_PairPut.j0L (a : List (S29)) (b : ByteArray) (c : Int) (d : List (S29)) (e : Bool) : Option ((List (S29)) × Bool) := Lim (fun k => spec_PairPut.j0 k a b c d e)
theorem spec_PairPut.j0L_is (a : List (S29)) (b : ByteArray) (c : Int) (d : List (S29)) (e : Bool) : LimIs (fun k => spec_PairPut.j0 k a b c d e) (spec_PairPut.j0L a b c d e) := LimIs.of_mono (fun k r h => (spec_PairPut.mono_l k).1 a b c d e r h)
noncomputable def spec_PairPut.j1L (a : List (S29)) (b : ByteArray) (c : Int) (d : List (S29)) (e : Int) (f : Bool) : Option ((List (S29)) × Bool) := Lim (fun k => spec_PairPut.j1 k a b c d e f)
theorem spec_PairPut.j1L_is (a : List (S29)) (b : ByteArray) (c : Int) (d : List (S29)) (e : Int) (f : Bool) : LimIs (fun k => spec_PairPut.j1 k a b c d e f) (spec_PairPut.j1L a b c d e f) := LimIs.of_mono (fun k r h => (spec_PairPut.mono_l k).2 a b c d e f r h)
noncomputable def spec_PairPut.fL (l0 : List (S29)) (a1 : ByteArray) (a2 : Int) : Option ((List (S29)) × Bool) := Lim (fun k => spec_PairPut.f k l0 a1 a2)
theorem spec_PairPut.fL_is (l0 : List (S29)) (a1 : ByteArray) (a2 : Int) : LimIs (fun k => spec_PairPut.f k l0 a1 a2) (spec_PairPut.fL l0 a1 a2) := LimIs.of_mono (fun k r h => spec_PairPut.mono l0 a1 a2 k r h)
theorem spec_PairPut.j0L_eq (a : List (S29)) (b : ByteArray) (c : Int) (d : List (S29)) (e : Bool) : spec_PairPut.j0L a b c d e = if e = true then (some (d, false)) else ((spec_l4Place.fL a b).bind fun t142 => (if t142 < (a.length : Int) then (if 0 ≤ t142 then (spec_PairPut.j1L a b c d t142 (((rd_T29 a t142).f0).toList == b.toList)) else (none)) else (spec_PairPut.j1L a b c d t142 false))) := by
  refine lU (spec_PairPut.j0L_is a b c d e) (LimIs.step1 (by simp only [spec_PairPut.j0]) ?_)
  simp only [spec_PairPut.j0]
  repeat' with_reducible first | exact lK _ | exact spec_PairPut.j1L_is .. | exact spec_l4Place.fL_is .. | apply lI | apply lB | intro _
theorem spec_PairPut.j1L_eq (a : List (S29)) (b : ByteArray) (c : Int) (d : List (S29)) (e : Int) (f : Bool) : spec_PairPut.j1L a b c d e f = if f = true then (if d.length + a.length < 5864062014805 then ((some (d ++ a : List (S29))).bind fun y144 => (if 0 ≤ e then (if e < (y144.length : Int) then (some ((y144.set (e : Int).toNat (⟨(rd_T29 y144 e).f0, c⟩ : S29)), true)) else (none)) else (none))) else (none)) else (if (a.length : Int) ≥ 48 then (if d.length + a.length < 5864062014805 then (some ((d ++ a), false)) else (none)) else (if 0 ≤ e then (if e ≤ (a.length : Int) then ((some (a.take (e : Int).toNat : List (S29))).bind fun y151 => (if d.length + y151.length < 5864062014805 then ((some (d ++ y151 : List (S29))).bind fun y155 => (if y155.length < 5864062014805 then ((some (y155 ++ [(⟨b, c⟩ : S29)] : List (S29))).bind fun y158 => ((some (a.drop (e : Int).toNat : List (S29))).bind fun y161 => (if y158.length + y161.length < 5864062014805 then (some ((y158 ++ y161), true)) else (none)))) else (none))) else (none))) else (none)) else (none))) := by
  refine lU (spec_PairPut.j1L_is a b c d e f) (LimIs.step1 (by simp only [spec_PairPut.j1]) ?_)
  simp only [spec_PairPut.j1]
  repeat' with_reducible first | exact lK _ | apply lI | apply lB | intro _
theorem spec_PairPut.fL_eq (l0 : List (S29)) (a1 : ByteArray) (a2 : Int) : spec_PairPut.fL l0 a1 a2 = (some (([] : List (S29)) : List (S29))).bind fun y136 => ((spec_PairsValid.fL l0).bind fun t139 => (if t139 = true then ((spec_KeyValid.fL a1).bind fun t140 => (if t140 = true then ((spec_l1In.f a2 0 999).bind fun t141 => (spec_PairPut.j0L l0 a1 a2 y136 (!t141))) else (spec_PairPut.j0L l0 a1 a2 y136 true))) else (spec_PairPut.j0L l0 a1 a2 y136 true))) := by
  refine lU (spec_PairPut.fL_is l0 a1 a2) ?_
  unfold spec_PairPut.f
  repeat' with_reducible first | exact lK _ | exact spec_KeyValid.fL_is .. | exact spec_PairPut.j0L_is .. | exact spec_PairsValid.fL_is .. | apply lI | apply lB | intro _
/-! ### spec_l20Rd_odd -/
noncomputable def spec_l20Rd_odd.fL (s0_0 : List Int) (s0_1 a1 : Int) : Option (Bool × Int) := Lim (fun k => spec_l20Rd_odd.f k s0_0 s0_1 a1)
theorem spec_l20Rd_odd.fL_is (s0_0 : List Int) (s0_1 a1 : Int) : LimIs (fun k => spec_l20Rd_odd.f k s0_0 s0_1 a1) (spec_l20Rd_odd.fL s0_0 s0_1 a1) := LimIs.of_mono (fun k r h => spec_l20Rd_odd.mono s0_0 s0_1 a1 k r h)
theorem spec_l20Rd_odd.fL_eq (s0_0 : List Int) (s0_1 a1 : Int) : spec_l20Rd_odd.fL s0_0 s0_1 a1 = if a1 > 0 then ((spec_l20Rd_pick.fL s0_0 s0_1 a1).bind fun bt168 => (some ((bt168.1 == (wrap64 (a1 - 1))), bt168.2))) else (some (false, s0_1)) := by
  refine lU (spec_l20Rd_odd.fL_is s0_0 s0_1 a1) ?_
  unfold spec_l20Rd_odd.f
  repeat' with_reducible first | exact lK _ | exact spec_l20Rd_pick.fL_is .. | apply lI | apply lB | intro _
/-! ### spec_l20Key -/
noncomputable def spec_l20Key.l0L (a : ByteArray) (b : Int) (c : List Int) (d : Int) : Option (ByteArray × Int) := Lim (fun k => spec_l20Key.l0 k a b c d)
theorem spec_l20Key.l0L_is (a : ByteArray) (b : Int) (c : List Int) (d : Int) : LimIs (fun k => spec_l20Key.l0 k a b c d) (spec_l20Key.l0L a b c d) := LimIs.of_mono (fun k r h => (spec_l20Key.mono_l k) a b c d r h)
noncomputable def spec_l20Key.fL (s0_0 : List Int) (s0_1 a1 : Int) : Option (ByteArray × Int) := Lim (fun k => spec_l20Key.f k s0_0 s0_1 a1)
theorem spec_l20Key.fL_is (s0_0 : List Int) (s0_1 a1 : Int) : LimIs (fun k => spec_l20Key.f k s0_0 s0_1 a1) (spec_l20Key.fL s0_0 s0_1 a1) := LimIs.of_mono (fun k r h => spec_l20Key.mono s0_0 s0_1 a1 k r h)
theorem spec_l20Key.l0L_eq (a : ByteArray) (b : Int) (c : List Int) (d : Int) : spec_l20Key.l0L a b c d = if b > 0 then ((spec_l20Rd_pick.fL c d 4).bind fun bt188 => ((some (([(wrap64 (97 + bt188.1)) % 256] : List Int) : List Int)).bind fun y190 => (if a.size + (strOfNums y190).size ≤ 9223372036854775807 then (spec_l20Key.l0L (a ++ (strOfNums y190)) (wrap64 (b - 1)) c bt188.2) else (none)))) else (some (a, d)) := by
  refine lU (spec_l20Key.l0L_is a b c d) (LimIs.step1 (by simp only [spec_l20Key.l0]) ?_)
  simp only [spec_l20Key.l0]
  repeat' with_reducible first | exact lK _ | exact spec_l20Key.l0L_is .. | exact spec_l20Rd_pick.fL_is .. | apply lI | apply lB | intro _
theorem spec_l20Key.fL_eq (s0_0 : List Int) (s0_1 a1 : Int) : spec_l20Key.fL s0_0 s0_1 a1 = (spec_l20Rd_odd.fL s0_0 s0_1 a1).bind fun bt170 => (if bt170.1 = true then ((some (([(⟨#[]⟩ : ByteArray), (⟨#[65]⟩ : ByteArray), (⟨#[97, 49]⟩ : ByteArray), (⟨#[97, 98, 99, 100, 101]⟩ : ByteArray), (⟨#[98, 123]⟩ : ByteArray), (⟨#[97, 32, 98]⟩ : ByteArray)] : List ByteArray) : List ByteArray)).bind fun y172 => ((spec_l20Rd_pick.fL s0_0 bt170.2 6).bind fun bt175 => (if 0 ≤ bt175.1 then (if bt175.1 < (y172.length : Int) then (some (rdOf ByteArray.empty y172 bt175.1, bt175.2)) else (none)) else (none)))) else ((spec_l20Rd_pick.fL s0_0 bt170.2 12).bind fun bt178 => (if bt178.1 = 11 then ((some (([(⟨#[122, 122, 122, 122]⟩ : ByteArray), (⟨#[122, 122, 122]⟩ : ByteArray), (⟨#[97, 122, 122, 122]⟩ : ByteArray), (⟨#[122]⟩ : ByteArray), (⟨#[97, 97, 97, 97]⟩ : ByteArray)] : List ByteArray) : List ByteArray)).bind fun y180 => ((spec_l20Rd_pick.fL s0_0 bt178.2 5).bind fun bt183 => (if 0 ≤ bt183.1 then (if bt183.1 < (y180.length : Int) then (some (rdOf ByteArray.empty y180 bt183.1, bt183.2)) else (none)) else (none)))) else ((spec_l20Rd_pick.fL s0_0 bt178.2 2).bind fun bt186 => (spec_l20Key.l0L (⟨#[]⟩ : ByteArray) (wrap64 (1 + bt186.1)) s0_0 bt186.2))))) := by
  refine lU (spec_l20Key.fL_is s0_0 s0_1 a1) ?_
  unfold spec_l20Key.f
  repeat' with_reducible first | exact lK _ | exact spec_l20Key.l0L_is .. | exact spec_l20Rd_odd.fL_is .. | exact spec_l20Rd_pick.fL_is .. | apply lI | apply lB | intro _
/-! ### spec_l20Value -/
noncomputable def spec_l20Value.fL (s0_0 : List Int) (s0_1 a1 : Int) : Option (Int × Int) := Lim (fun k => spec_l20Value.f k s0_0 s0_1 a1)
theorem spec_l20Value.fL_is (s0_0 : List Int) (s0_1 a1 : Int) : LimIs (fun k => spec_l20Value.f k s0_0 s0_1 a1) (spec_l20Value.fL s0_0 s0_1 a1) := LimIs.of_mono (fun k r h => spec_l20Value.mono s0_0 s0_1 a1 k r h)
theorem spec_l20Value.fL_eq (s0_0 : List Int) (s0_1 a1 : Int) : spec_l20Value.fL s0_0 s0_1 a1 = (spec_l20Rd_odd.fL s0_0 s0_1 a1).bind fun bt193 => (if bt193.1 = true then ((some (([(-1), 1000] : List Int) : List Int)).bind fun y195 => ((spec_l20Rd_pick.fL s0_0 bt193.2 2).bind fun bt198 => (if 0 ≤ bt198.1 then (if bt198.1 < (y195.length : Int) then (some (rd y195 bt198.1, bt198.2)) else (none)) else (none)))) else ((spec_l20Rd_pick.fL s0_0 bt193.2 20).bind fun bt201 => ((some (([bt201.1, 999] : List Int) : List Int)).bind fun y203 => ((spec_l20Rd_pick.fL s0_0 bt201.2 9).bind fun bt206 => (if 0 ≤ (wrap64 (Int.tdiv bt206.1 8)) then (if (wrap64 (Int.tdiv bt206.1 8)) < (y203.length : Int) then (some (rd y203 (wrap64 (Int.tdiv bt206.1 8)), bt206.2)) else (none)) else (none)))))) := by
  refine lU (spec_l20Value.fL_is s0_0 s0_1 a1) ?_
  unfold spec_l20Value.f
  repeat' with_reducible first | exact lK _ | exact spec_l20Rd_odd.fL_is .. | exact spec_l20Rd_pick.fL_is .. | apply lI | apply lB | intro _
/-! ### spec_KeyAt -/
noncomputable def spec_KeyAt.l0L (a : Int) (b : ByteArray) (c : Int) : Option (ByteArray) := Lim (fun k => spec_KeyAt.l0 k a b c)
theorem spec_KeyAt.l0L_is (a : Int) (b : ByteArray) (c : Int) : LimIs (fun k => spec_KeyAt.l0 k a b c) (spec_KeyAt.l0L a b c) := LimIs.of_mono (fun k r h => (spec_KeyAt.mono_l k) a b c r h)
noncomputable def spec_KeyAt.fL (a0 : Int) : Option (ByteArray) := Lim (fun k => spec_KeyAt.f k a0)
theorem spec_KeyAt.fL_is (a0 : Int) : LimIs (fun k => spec_KeyAt.f k a0) (spec_KeyAt.fL a0) := LimIs.of_mono (fun k r h => spec_KeyAt.mono a0 k r h)
theorem spec_KeyAt.l0L_eq (a : Int) (b : ByteArray) (c : Int) : spec_KeyAt.l0L a b c = if c < 4 then ((spec_l1Weight.f c).bind fun t210 => (if t210 = 0 then (none) else ((some (([(wrap64 (97 + (wrap64 (Int.tdiv a t210)))) % 256] : List Int) : List Int)).bind fun y211 => (if b.size + (strOfNums y211).size ≤ 9223372036854775807 then ((spec_l1Weight.f c).bind fun t214 => (if t214 = 0 then (none) else (if (Int.tmod a t214) = 0 then (some (b ++ (strOfNums y211))) else (spec_KeyAt.l0L (wrap64 ((Int.tmod a t214) - 1)) (b ++ (strOfNums y211)) (wrap64 (c + 1)))))) else (none))))) else (some b) := by
  refine lU (spec_KeyAt.l0L_is a b c) (LimIs.step1 (by simp only [spec_KeyAt.l0]) ?_)
  simp only [spec_KeyAt.l0]
  repeat' with_reducible first | exact lK _ | exact spec_KeyAt.l0L_is .. | apply lI | apply lB | intro _
theorem spec_KeyAt.fL_eq (a0 : Int) : spec_KeyAt.fL a0 = (spec_l1In.f a0 0 475253).bind fun t209 => (if t209 = true then (spec_KeyAt.l0L a0 (⟨#[]⟩ : ByteArray) 0) else (some (⟨#[]⟩ : ByteArray))) := by
  refine lU (spec_KeyAt.fL_is a0) ?_
  unfold spec_KeyAt.f
  repeat' with_reducible first | exact lK _ | exact spec_KeyAt.l0L_is .. | apply lI | apply lB | intro _
/-! ### spec_l20Pairs -/
noncomputable def spec_l20Pairs.l0L (a : Int) (b : List (S29)) (c : Int) (d : List Int) (e : Int) : Option ((List (S29)) × Int) := Lim (fun k => spec_l20Pairs.l0 k a b c d e)
theorem spec_l20Pairs.l0L_is (a : Int) (b : List (S29)) (c : Int) (d : List Int) (e : Int) : LimIs (fun k => spec_l20Pairs.l0 k a b c d e) (spec_l20Pairs.l0L a b c d e) := LimIs.of_mono (fun k r h => (spec_l20Pairs.mono_l k).1 a b c d e r h)
noncomputable def spec_l20Pairs.j3L (a : Int) (b : List (S29)) (c : List Int) (d : Int) : Option ((List (S29)) × Int) := Lim (fun k => spec_l20Pairs.j3 k a b c d)
theorem spec_l20Pairs.j3L_is (a : Int) (b : List (S29)) (c : List Int) (d : Int) : LimIs (fun k => spec_l20Pairs.j3 k a b c d) (spec_l20Pairs.j3L a b c d) := LimIs.of_mono (fun k r h => (spec_l20Pairs.mono_l k).2.1 a b c d r h)
noncomputable def spec_l20Pairs.l1L (a : Int) (b : List (S29)) (c : Int) (d : List Int) (e : Int) : Option ((List (S29)) × Int) := Lim (fun k => spec_l20Pairs.l1 k a b c d e)
theorem spec_l20Pairs.l1L_is (a : Int) (b : List (S29)) (c : Int) (d : List Int) (e : Int) : LimIs (fun k => spec_l20Pairs.l1 k a b c d e) (spec_l20Pairs.l1L a b c d e) := LimIs.of_mono (fun k r h => (spec_l20Pairs.mono_l k).2.2.1 a b c d e r h)
noncomputable def spec_l20Pairs.j2L (a : Int) (b : List (S29)) (c : Int) (d : Bool) (e : List Int) (g : Int) : Option ((List (S29)) × Int) := Lim (fun k => spec_l20Pairs.j2 k a b c d e g)
theorem spec_l20Pairs.j2L_is (a : Int) (b : List (S29)) (c : Int) (d : Bool) (e : List Int) (g : Int) : LimIs (fun k => spec_l20Pairs.j2 k a b c d e g) (spec_l20Pairs.j2L a b c d e g) := LimIs.of_mono (fun k r h => (spec_l20Pairs.mono_l k).2.2.2 a b c d e g r h)
noncomputable def spec_l20Pairs.fL (s0_0 : List Int) (s0_1 a1 : Int) : Option ((List (S29)) × Int) := Lim (fun k => spec_l20Pairs.f k s0_0 s0_1 a1)
theorem spec_l20Pairs.fL_is (s0_0 : List Int) (s0_1 a1 : Int) : LimIs (fun k => spec_l20Pairs.f k s0_0 s0_1 a1) (spec_l20Pairs.fL s0_0 s0_1 a1) := LimIs.of_mono (fun k r h => spec_l20Pairs.mono s0_0 s0_1 a1 k r h)
theorem spec_l20Pairs.l0L_eq (a : Int) (b : List (S29)) (c : Int) (d : List Int) (e : Int) : spec_l20Pairs.l0L a b c d e = if c > 0 then ((spec_l20Key.fL d e 0).bind fun bt220 => ((spec_l20Value.fL d bt220.2 0).bind fun bt222 => ((spec_PairPut.fL b bt220.1 bt222.1).bind fun bt224 => (spec_l20Pairs.l0L a bt224.1 (wrap64 (c - 1)) d bt222.2)))) else ((spec_l20Rd_pick.fL d e 16).bind fun bt228 => (if bt228.1 = 15 then (spec_l20Pairs.l1L a b 0 d bt228.2) else (spec_l20Pairs.j3L a b d bt228.2))) := by
  refine lU (spec_l20Pairs.l0L_is a b c d e) (LimIs.step1 (by simp only [spec_l20Pairs.l0]) ?_)
  simp only [spec_l20Pairs.l0]
  repeat' with_reducible first | exact lK _ | exact spec_PairPut.fL_is .. | exact spec_l20Key.fL_is .. | exact spec_l20Pairs.j3L_is .. | exact spec_l20Pairs.l0L_is .. | exact spec_l20Pairs.l1L_is .. | exact spec_l20Rd_pick.fL_is .. | exact spec_l20Value.fL_is .. | apply lI | apply lB | intro _
theorem spec_l20Pairs.j3L_eq (a : Int) (b : List (S29)) (c : List Int) (d : Int) : spec_l20Pairs.j3L a b c d = (spec_l20Rd_odd.fL c d a).bind fun bt235 => (if bt235.1 = true then ((some (([(⟨(⟨#[]⟩ : ByteArray), 0⟩ : S29), (⟨(⟨#[122, 122, 122, 122]⟩ : ByteArray), (-1)⟩ : S29), (⟨(⟨#[122, 122, 122, 122]⟩ : ByteArray), 1000⟩ : S29), (⟨(⟨#[97]⟩ : ByteArray), 1⟩ : S29), (⟨(⟨#[65]⟩ : ByteArray), 0⟩ : S29)] : List (S29)) : List (S29))).bind fun y237 => ((spec_l20Rd_pick.fL c bt235.2 5).bind fun bt240 => (if 0 ≤ bt240.1 then (if bt240.1 < (y237.length : Int) then (if b.length < 5864062014805 then (some ((b ++ [(⟨(rd_T29 y237 bt240.1).f0, (rd_T29 y237 bt240.1).f1⟩ : S29)]), bt240.2)) else (none)) else (none)) else (none)))) else (some (b, bt235.2))) := by
  refine lU (spec_l20Pairs.j3L_is a b c d) (LimIs.step1 (by simp only [spec_l20Pairs.j3]) ?_)
  simp only [spec_l20Pairs.j3]
  repeat' with_reducible first | exact lK _ | exact spec_l20Rd_odd.fL_is .. | exact spec_l20Rd_pick.fL_is .. | apply lI | apply lB | intro _
theorem spec_l20Pairs.l1L_eq (a : Int) (b : List (S29)) (c : Int) (d : List Int) (e : Int) : spec_l20Pairs.l1L a b c d e = if (b.length : Int) < 48 then (spec_l20Pairs.j2L a b c (decide (c < 200)) d e) else (spec_l20Pairs.j2L a b c false d e) := by
  refine lU (spec_l20Pairs.l1L_is a b c d e) (LimIs.step1 (by simp only [spec_l20Pairs.l1]) ?_)
  simp only [spec_l20Pairs.l1]
  repeat' with_reducible first | exact lK _ | exact spec_l20Pairs.j2L_is .. | apply lI | apply lB | intro _
theorem spec_l20Pairs.j2L_eq (a : Int) (b : List (S29)) (c : Int) (d : Bool) (e : List Int) (g : Int) : spec_l20Pairs.j2L a b c d e g = if d = true then ((spec_KeyAt.fL (wrap64 (c * 9))).bind fun t230 => ((spec_PairPut.fL b t230 c).bind fun bt231 => (spec_l20Pairs.l1L a bt231.1 (wrap64 (c + 1)) e g))) else (spec_l20Pairs.j3L a b e g) := by
  refine lU (spec_l20Pairs.j2L_is a b c d e g) (LimIs.step1 (by simp only [spec_l20Pairs.j2]) ?_)
  simp only [spec_l20Pairs.j2]
  repeat' with_reducible first | exact lK _ | exact spec_KeyAt.fL_is .. | exact spec_PairPut.fL_is .. | exact spec_l20Pairs.j3L_is .. | exact spec_l20Pairs.l1L_is .. | apply lI | apply lB | intro _
theorem spec_l20Pairs.fL_eq (s0_0 : List Int) (s0_1 a1 : Int) : spec_l20Pairs.fL s0_0 s0_1 a1 = (spec_l20Rd_pick.fL s0_0 s0_1 9).bind fun bt218 => (spec_l20Pairs.l0L a1 (([] : List (S29))) bt218.1 s0_0 bt218.2) := by
  refine lU (spec_l20Pairs.fL_is s0_0 s0_1 a1) ?_
  unfold spec_l20Pairs.f
  repeat' with_reducible first | exact lK _ | exact spec_l20Pairs.l0L_is .. | exact spec_l20Rd_pick.fL_is .. | apply lI | apply lB | intro _
/-! ### spec_SessionsValid -/
noncomputable def spec_SessionsValid.l0L (a : List (S180)) (b : Int) : Option (Bool) := Lim (fun k => spec_SessionsValid.l0 k a b)
theorem spec_SessionsValid.l0L_is (a : List (S180)) (b : Int) : LimIs (fun k => spec_SessionsValid.l0 k a b) (spec_SessionsValid.l0L a b) := LimIs.of_mono (fun k r h => (spec_SessionsValid.mono_l k) a b r h)
noncomputable def spec_SessionsValid.fL (l0 : List (S180)) : Option (Bool) := Lim (fun k => spec_SessionsValid.f k l0)
theorem spec_SessionsValid.fL_is (l0 : List (S180)) : LimIs (fun k => spec_SessionsValid.f k l0) (spec_SessionsValid.fL l0) := LimIs.of_mono (fun k r h => spec_SessionsValid.mono l0 k r h)
theorem spec_SessionsValid.l0L_eq (a : List (S180)) (b : Int) : spec_SessionsValid.l0L a b = if b < (a.length : Int) then (if 0 ≤ b then ((spec_l1In.f ((rd_T180 a b).f0) 0 3).bind fun t248 => (if t248 = true then ((spec_l1In.f ((rd_T180 a b).f1) 1 999).bind fun t249 => (if t249 = true then ((spec_l1In.f ((rd_T180 a b).f2) (-2) 999).bind fun t250 => (if t250 = true then (if b > 0 then (if 0 ≤ (wrap64 (b - 1)) then (if (wrap64 (b - 1)) < (a.length : Int) then (if ((rd_T180 a b).f0) ≤ ((rd_T180 a (wrap64 (b - 1))).f0) then (some false) else (spec_SessionsValid.l0L a (wrap64 (b + 1)))) else (none)) else (none)) else (spec_SessionsValid.l0L a (wrap64 (b + 1)))) else (some false))) else (some false))) else (some false))) else (none)) else (some true) := by
  refine lU (spec_SessionsValid.l0L_is a b) (LimIs.step1 (by simp only [spec_SessionsValid.l0]) ?_)
  simp only [spec_SessionsValid.l0]
  repeat' with_reducible first | exact lK _ | exact spec_SessionsValid.l0L_is .. | apply lI | apply lB | intro _
theorem spec_SessionsValid.fL_eq (l0 : List (S180)) : spec_SessionsValid.fL l0 = spec_SessionsValid.l0L l0 0 := by
  refine lU (spec_SessionsValid.fL_is l0) ?_
  unfold spec_SessionsValid.f
  repeat' with_reducible first | exact lK _ | exact spec_SessionsValid.l0L_is .. | apply lI | apply lB | intro _
/-! ### spec_l9Find -/
noncomputable def spec_l9Find.l0L (a : List (S180)) (b c : Int) : Option (Int × Int × Int) := Lim (fun k => spec_l9Find.l0 k a b c)
theorem spec_l9Find.l0L_is (a : List (S180)) (b c : Int) : LimIs (fun k => spec_l9Find.l0 k a b c) (spec_l9Find.l0L a b c) := LimIs.of_mono (fun k r h => (spec_l9Find.mono_l k) a b c r h)
noncomputable def spec_l9Find.fL (l0 : List (S180)) (a1 : Int) : Option (Int × Int × Int) := Lim (fun k => spec_l9Find.f k l0 a1)
theorem spec_l9Find.fL_is (l0 : List (S180)) (a1 : Int) : LimIs (fun k => spec_l9Find.f k l0 a1) (spec_l9Find.fL l0 a1) := LimIs.of_mono (fun k r h => spec_l9Find.mono l0 a1 k r h)
theorem spec_l9Find.l0L_eq (a : List (S180)) (b c : Int) : spec_l9Find.l0L a b c = if c < (a.length : Int) then (if 0 ≤ c then (if ((rd_T180 a c).f0) = b then (some ((rd_T180 a c).f0, (rd_T180 a c).f1, (rd_T180 a c).f2)) else (spec_l9Find.l0L a b (wrap64 (c + 1)))) else (none)) else (some (0, 0, 0)) := by
  refine lU (spec_l9Find.l0L_is a b c) (LimIs.step1 (by simp only [spec_l9Find.l0]) ?_)
  simp only [spec_l9Find.l0]
  repeat' with_reducible first | exact lK _ | exact spec_l9Find.l0L_is .. | apply lI | apply lB | intro _
theorem spec_l9Find.fL_eq (l0 : List (S180)) (a1 : Int) : spec_l9Find.fL l0 a1 = spec_l9Find.l0L l0 a1 0 := by
  refine lU (spec_l9Find.fL_is l0 a1) ?_
  unfold spec_l9Find.f
  repeat' with_reducible first | exact lK _ | exact spec_l9Find.l0L_is .. | apply lI | apply lB | intro _
/-! ### spec_SessionSeq -/
noncomputable def spec_SessionSeq.fL (l0 : List (S180)) (a1 : Int) : Option (Int) := Lim (fun k => spec_SessionSeq.f k l0 a1)
theorem spec_SessionSeq.fL_is (l0 : List (S180)) (a1 : Int) : LimIs (fun k => spec_SessionSeq.f k l0 a1) (spec_SessionSeq.fL l0 a1) := LimIs.of_mono (fun k r h => spec_SessionSeq.mono l0 a1 k r h)
theorem spec_SessionSeq.fL_eq (l0 : List (S180)) (a1 : Int) : spec_SessionSeq.fL l0 a1 = (spec_SessionsValid.fL l0).bind fun t255 => (if t255 = true then ((spec_l1In.f a1 0 3).bind fun t256 => (if t256 = true then ((spec_l9Find.fL l0 a1).bind fun bt257 => (some bt257.2.1)) else (some (-1)))) else (some (-1))) := by
  refine lU (spec_SessionSeq.fL_is l0 a1) ?_
  unfold spec_SessionSeq.f
  repeat' with_reducible first | exact lK _ | exact spec_SessionsValid.fL_is .. | exact spec_l9Find.fL_is .. | apply lI | apply lB | intro _
/-! ### spec_SessionPut -/
noncomputable def spec_SessionPut.j0L (a b : List (S180)) (c : Bool) (d e g : Int) : Option ((List (S180)) × Bool) := Lim (fun k => spec_SessionPut.j0 k a b c d e g)
theorem spec_SessionPut.j0L_is (a b : List (S180)) (c : Bool) (d e g : Int) : LimIs (fun k => spec_SessionPut.j0 k a b c d e g) (spec_SessionPut.j0L a b c d e g) := LimIs.of_mono (fun k r h => (spec_SessionPut.mono_l k).1 a b c d e g r h)
noncomputable def spec_SessionPut.l0L (a b : List (S180)) (c : Bool) (d e f g : Int) : Option ((List (S180)) × Bool) := Lim (fun k => spec_SessionPut.l0 k a b c d e f g)
theorem spec_SessionPut.l0L_is (a b : List (S180)) (c : Bool) (d e f g : Int) : LimIs (fun k => spec_SessionPut.l0 k a b c d e f g) (spec_SessionPut.l0L a b c d e f g) := LimIs.of_mono (fun k r h => (spec_SessionPut.mono_l k).2.1 a b c d e f g r h)
noncomputable def spec_SessionPut.j2L (a b : List (S180)) (c : Bool) (d : Int) (e : Bool) (f g i : Int) : Option ((List (S180)) × Bool) := Lim (fun k => spec_SessionPut.j2 k a b c d e f g i)
theorem spec_SessionPut.j2L_is (a b : List (S180)) (c : Bool) (d : Int) (e : Bool) (f g i : Int) : LimIs (fun k => spec_SessionPut.j2 k a b c d e f g i) (spec_SessionPut.j2L a b c d e f g i) := LimIs.of_mono (fun k r h => (spec_SessionPut.mono_l k).2.2 a b c d e f g i r h)
noncomputable def spec_SessionPut.fL (l0 : List (S180)) (a1_0 a1_1 a1_2 : Int) : Option ((List (S180)) × Bool) := Lim (fun k => spec_SessionPut.f k l0 a1_0 a1_1 a1_2)
theorem spec_SessionPut.fL_is (l0 : List (S180)) (a1_0 a1_1 a1_2 : Int) : LimIs (fun k => spec_SessionPut.f k l0 a1_0 a1_1 a1_2) (spec_SessionPut.fL l0 a1_0 a1_1 a1_2) := LimIs.of_mono (fun k r h => spec_SessionPut.mono l0 a1_0 a1_1 a1_2 k r h)
theorem spec_SessionPut.j0L_eq (a b : List (S180)) (c : Bool) (d e g : Int) : spec_SessionPut.j0L a b c d e g = if c = true then (some (b, false)) else ((spec_SessionSeq.fL a d).bind fun t269 => (if t269 ≥ e then (if b.length + a.length < 5864062014805 then (some ((b ++ a), false)) else (none)) else (spec_SessionPut.l0L a b false 0 d e g))) := by
  refine lU (spec_SessionPut.j0L_is a b c d e g) (LimIs.step1 (by simp only [spec_SessionPut.j0]) ?_)
  simp only [spec_SessionPut.j0]
  repeat' with_reducible first | exact lK _ | exact spec_SessionPut.l0L_is .. | exact spec_SessionSeq.fL_is .. | apply lI | apply lB | intro _
theorem spec_SessionPut.l0L_eq (a b : List (S180)) (c : Bool) (d e f g : Int) : spec_SessionPut.l0L a b c d e f g = if d < (a.length : Int) then (if c = true then (spec_SessionPut.j2L a b c d false e f g) else (if 0 ≤ d then (spec_SessionPut.j2L a b c d (decide (((rd_T180 a d).f0) ≥ e)) e f g) else (none))) else (if c = true then (some (b, true)) else (if b.length < 5864062014805 then (some ((b ++ [(⟨e, f, g⟩ : S180)]), true)) else (none))) := by
  refine lU (spec_SessionPut.l0L_is a b c d e f g) (LimIs.step1 (by simp only [spec_SessionPut.l0]) ?_)
  simp only [spec_SessionPut.l0]
  repeat' with_reducible first | exact lK _ | exact spec_SessionPut.j2L_is .. | apply lI | apply lB | intro _
theorem spec_SessionPut.j2L_eq (a b : List (S180)) (c : Bool) (d : Int) (e : Bool) (f g i : Int) : spec_SessionPut.j2L a b c d e f g i = if e = true then (if b.length < 5864062014805 then ((some (b ++ [(⟨f, g, i⟩ : S180)] : List (S180))).bind fun y277 => (if 0 ≤ d then (if d < (a.length : Int) then (if ((rd_T180 a d).f0) = f then (spec_SessionPut.l0L a y277 true (wrap64 (d + 1)) f g i) else (if y277.length < 5864062014805 then (spec_SessionPut.l0L a (y277 ++ [(⟨(rd_T180 a d).f0, (rd_T180 a d).f1, (rd_T180 a d).f2⟩ : S180)]) true (wrap64 (d + 1)) f g i) else (none))) else (none)) else (none))) else (none)) else (if 0 ≤ d then (if d < (a.length : Int) then (if ((rd_T180 a d).f0) = f then (spec_SessionPut.l0L a b c (wrap64 (d + 1)) f g i) else (if b.length < 5864062014805 then (spec_SessionPut.l0L a (b ++ [(⟨(rd_T180 a d).f0, (rd_T180 a d).f1, (rd_T180 a d).f2⟩ : S180)]) c (wrap64 (d + 1)) f g i) else (none))) else (none)) else (none)) := by
  refine lU (spec_SessionPut.j2L_is a b c d e f g i) (LimIs.step1 (by simp only [spec_SessionPut.j2]) ?_)
  simp only [spec_SessionPut.j2]
  repeat' with_reducible first | exact lK _ | exact spec_SessionPut.l0L_is .. | apply lI | apply lB | intro _
theorem spec_SessionPut.fL_eq (l0 : List (S180)) (a1_0 a1_1 a1_2 : Int) : spec_SessionPut.fL l0 a1_0 a1_1 a1_2 = (some (([] : List (S180)) : List (S180))).bind fun y261 => ((spec_SessionsValid.fL l0).bind fun t264 => (if t264 = true then ((spec_SessionsValid.fL (([(⟨a1_0, a1_1, a1_2⟩ : S180)] : List (S180)))).bind fun t268 => (spec_SessionPut.j0L l0 y261 (!t268) a1_0 a1_1 a1_2)) else (spec_SessionPut.j0L l0 y261 true a1_0 a1_1 a1_2))) := by
  refine lU (spec_SessionPut.fL_is l0 a1_0 a1_1 a1_2) ?_
  unfold spec_SessionPut.f
  repeat' with_reducible first | exact lK _ | exact spec_SessionPut.j0L_is .. | exact spec_SessionsValid.fL_is .. | apply lI | apply lB | intro _
/-! ### spec_l20Session -/
noncomputable def spec_l20Session.fL (s0_0 : List Int) (s0_1 a1 : Int) : Option (Int × Int × Int × Int) := Lim (fun k => spec_l20Session.f k s0_0 s0_1 a1)
theorem spec_l20Session.fL_is (s0_0 : List Int) (s0_1 a1 : Int) : LimIs (fun k => spec_l20Session.f k s0_0 s0_1 a1) (spec_l20Session.fL s0_0 s0_1 a1) := LimIs.of_mono (fun k r h => spec_l20Session.mono s0_0 s0_1 a1 k r h)
theorem spec_l20Session.fL_eq (s0_0 : List Int) (s0_1 a1 : Int) : spec_l20Session.fL s0_0 s0_1 a1 = (spec_l20Rd_odd.fL s0_0 s0_1 a1).bind fun bt291 => (if bt291.1 = true then ((some (([(⟨(-1), 1, 0⟩ : S180), (⟨4, 1, 0⟩ : S180), (⟨1, 0, 0⟩ : S180), (⟨1, 1000, 0⟩ : S180), (⟨1, 1, (-3)⟩ : S180), (⟨1, 1, 1000⟩ : S180)] : List (S180)) : List (S180))).bind fun y293 => ((spec_l20Rd_pick.fL s0_0 bt291.2 6).bind fun bt296 => (if 0 ≤ bt296.1 then (if bt296.1 < (y293.length : Int) then (some ((rd_T180 y293 bt296.1).f0, (rd_T180 y293 bt296.1).f1, (rd_T180 y293 bt296.1).f2, bt296.2)) else (none)) else (none)))) else ((spec_l20Rd_pick.fL s0_0 bt291.2 4).bind fun bt299 => ((spec_l20Rd_pick.fL s0_0 bt299.2 6).bind fun bt301 => ((spec_l20Rd_pick.fL s0_0 bt301.2 9).bind fun bt303 => (some (bt299.1, wrap64 (1 + bt301.1), wrap64 (bt303.1 + (-2)), bt303.2)))))) := by
  refine lU (spec_l20Session.fL_is s0_0 s0_1 a1) ?_
  unfold spec_l20Session.f
  repeat' with_reducible first | exact lK _ | exact spec_l20Rd_odd.fL_is .. | exact spec_l20Rd_pick.fL_is .. | apply lI | apply lB | intro _
/-! ### spec_l20Sessions -/
noncomputable def spec_l20Sessions.l0L (a : Int) (b : List (S180)) (c : Int) (d : List Int) (e : Int) : Option ((List (S180)) × Int) := Lim (fun k => spec_l20Sessions.l0 k a b c d e)
theorem spec_l20Sessions.l0L_is (a : Int) (b : List (S180)) (c : Int) (d : List Int) (e : Int) : LimIs (fun k => spec_l20Sessions.l0 k a b c d e) (spec_l20Sessions.l0L a b c d e) := LimIs.of_mono (fun k r h => (spec_l20Sessions.mono_l k) a b c d e r h)
noncomputable def spec_l20Sessions.fL (s0_0 : List Int) (s0_1 a1 : Int) : Option ((List (S180)) × Int) := Lim (fun k => spec_l20Sessions.f k s0_0 s0_1 a1)
theorem spec_l20Sessions.fL_is (s0_0 : List Int) (s0_1 a1 : Int) : LimIs (fun k => spec_l20Sessions.f k s0_0 s0_1 a1) (spec_l20Sessions.fL s0_0 s0_1 a1) := LimIs.of_mono (fun k r h => spec_l20Sessions.mono s0_0 s0_1 a1 k r h)
theorem spec_l20Sessions.l0L_eq (a : Int) (b : List (S180)) (c : Int) (d : List Int) (e : Int) : spec_l20Sessions.l0L a b c d e = if c > 0 then ((spec_l20Session.fL d e 0).bind fun bt310 => ((spec_SessionPut.fL b bt310.1 bt310.2.1 bt310.2.2.1).bind fun bt314 => (spec_l20Sessions.l0L a bt314.1 (wrap64 (c - 1)) d bt310.2.2.2))) else ((spec_l20Rd_odd.fL d e a).bind fun bt318 => (if bt318.1 = true then ((spec_l20Rd_pick.fL d bt318.2 2).bind fun bt320 => (if bt320.1 = 0 then (if b.length + b.length < 5864062014805 then (some ((b ++ b), bt320.2)) else (none)) else ((spec_l20Session.fL d bt320.2 1).bind fun bt325 => (if b.length < 5864062014805 then (some ((b ++ [(⟨bt325.1, bt325.2.1, bt325.2.2.1⟩ : S180)]), bt325.2.2.2)) else (none))))) else (some (b, bt318.2)))) := by
  refine lU (spec_l20Sessions.l0L_is a b c d e) (LimIs.step1 (by simp only [spec_l20Sessions.l0]) ?_)
  simp only [spec_l20Sessions.l0]
  repeat' with_reducible first | exact lK _ | exact spec_SessionPut.fL_is .. | exact spec_l20Rd_odd.fL_is .. | exact spec_l20Rd_pick.fL_is .. | exact spec_l20Session.fL_is .. | exact spec_l20Sessions.l0L_is .. | apply lI | apply lB | intro _
theorem spec_l20Sessions.fL_eq (s0_0 : List Int) (s0_1 a1 : Int) : spec_l20Sessions.fL s0_0 s0_1 a1 = (spec_l20Rd_pick.fL s0_0 s0_1 5).bind fun bt308 => (spec_l20Sessions.l0L a1 (([] : List (S180))) bt308.1 s0_0 bt308.2) := by
  refine lU (spec_l20Sessions.fL_is s0_0 s0_1 a1) ?_
  unfold spec_l20Sessions.f
  repeat' with_reducible first | exact lK _ | exact spec_l20Rd_pick.fL_is .. | exact spec_l20Sessions.l0L_is .. | apply lI | apply lB | intro _
/-! ### spec_PairGet -/
noncomputable def spec_PairGet.fL (l0 : List (S29)) (a1 : ByteArray) : Option (Int) := Lim (fun k => spec_PairGet.f k l0 a1)
theorem spec_PairGet.fL_is (l0 : List (S29)) (a1 : ByteArray) : LimIs (fun k => spec_PairGet.f k l0 a1) (spec_PairGet.fL l0 a1) := LimIs.of_mono (fun k r h => spec_PairGet.mono l0 a1 k r h)
theorem spec_PairGet.fL_eq (l0 : List (S29)) (a1 : ByteArray) : spec_PairGet.fL l0 a1 = (spec_l4Place.fL l0 a1).bind fun t332 => ((spec_PairsValid.fL l0).bind fun t333 => (if t333 = true then (if t332 = (l0.length : Int) then (some (-1)) else (if 0 ≤ t332 then (if t332 < (l0.length : Int) then (if ((rd_T29 l0 t332).f0).toList = a1.toList then (some ((rd_T29 l0 t332).f1)) else (some (-1))) else (none)) else (none))) else (some (-1)))) := by
  refine lU (spec_PairGet.fL_is l0 a1) ?_
  unfold spec_PairGet.f
  repeat' with_reducible first | exact lK _ | exact spec_PairsValid.fL_is .. | exact spec_l4Place.fL_is .. | apply lI | apply lB | intro _
/-! ### spec_IntervalValid -/
noncomputable def spec_IntervalValid.fL (a0_0 a0_1 : ByteArray) : Option (Bool) := Lim (fun k => spec_IntervalValid.f k a0_0 a0_1)
theorem spec_IntervalValid.fL_is (a0_0 a0_1 : ByteArray) : LimIs (fun k => spec_IntervalValid.f k a0_0 a0_1) (spec_IntervalValid.fL a0_0 a0_1) := LimIs.of_mono (fun k r h => spec_IntervalValid.mono a0_0 a0_1 k r h)
theorem spec_IntervalValid.fL_eq (a0_0 a0_1 : ByteArray) : spec_IntervalValid.fL a0_0 a0_1 = if a0_0.toList = ([] : List UInt8) then (if a0_1.toList = ([] : List UInt8) then (some true) else ((spec_KeyValid.fL a0_1).bind fun t337 => (if t337 = true then (if (Op.bytesLess a0_0.toList a0_1.toList) = true then (some (a0_1.toList != ([97] : List UInt8))) else (some false)) else (some false)))) else ((spec_KeyValid.fL a0_0).bind fun t338 => (if t338 = true then (if a0_1.toList = ([] : List UInt8) then (some true) else ((spec_KeyValid.fL a0_1).bind fun t339 => (if t339 = true then (if (Op.bytesLess a0_0.toList a0_1.toList) = true then (some true) else (some false)) else (some false)))) else (some false))) := by
  refine lU (spec_IntervalValid.fL_is a0_0 a0_1) ?_
  unfold spec_IntervalValid.f
  repeat' with_reducible first | exact lK _ | exact spec_KeyValid.fL_is .. | apply lI | apply lB | intro _
/-! ### spec_IntervalHas -/
noncomputable def spec_IntervalHas.fL (a0_0 a0_1 a1 : ByteArray) : Option (Bool) := Lim (fun k => spec_IntervalHas.f k a0_0 a0_1 a1)
theorem spec_IntervalHas.fL_is (a0_0 a0_1 a1 : ByteArray) : LimIs (fun k => spec_IntervalHas.f k a0_0 a0_1 a1) (spec_IntervalHas.fL a0_0 a0_1 a1) := LimIs.of_mono (fun k r h => spec_IntervalHas.mono a0_0 a0_1 a1 k r h)
theorem spec_IntervalHas.fL_eq (a0_0 a0_1 a1 : ByteArray) : spec_IntervalHas.fL a0_0 a0_1 a1 = (spec_IntervalValid.fL a0_0 a0_1).bind fun t341 => (if t341 = true then ((spec_KeyValid.fL a1).bind fun t342 => (if t342 = true then (if ((Op.bytesLess a1.toList a0_0.toList) = true) then (some false) else (if a0_1.toList = ([] : List UInt8) then (some true) else (some (Op.bytesLess a1.toList a0_1.toList)))) else (some false))) else (some false)) := by
  refine lU (spec_IntervalHas.fL_is a0_0 a0_1 a1) ?_
  unfold spec_IntervalHas.f
  repeat' with_reducible first | exact lK _ | exact spec_IntervalValid.fL_is .. | exact spec_KeyValid.fL_is .. | apply lI | apply lB | intro _
/-! ### spec_IntervalCut -/
noncomputable def spec_IntervalCut.fL (a0_0 a0_1 a1 : ByteArray) : Option (ByteArray × ByteArray × ByteArray × ByteArray × Bool) := Lim (fun k => spec_IntervalCut.f k a0_0 a0_1 a1)
theorem spec_IntervalCut.fL_is (a0_0 a0_1 a1 : ByteArray) : LimIs (fun k => spec_IntervalCut.f k a0_0 a0_1 a1) (spec_IntervalCut.fL a0_0 a0_1 a1) := LimIs.of_mono (fun k r h => spec_IntervalCut.mono a0_0 a0_1 a1 k r h)
theorem spec_IntervalCut.fL_eq (a0_0 a0_1 a1 : ByteArray) : spec_IntervalCut.fL a0_0 a0_1 a1 = (spec_IntervalValid.fL a0_0 a0_1).bind fun t348 => (if t348 = true then ((spec_KeyValid.fL a1).bind fun t349 => (if t349 = true then ((spec_IntervalValid.fL a0_0 a1).bind fun t350 => (if t350 = true then ((spec_IntervalValid.fL a1 a0_1).bind fun t351 => (if t351 = true then (some (a0_0, a1, a1, a0_1, true)) else (some ((⟨#[]⟩ : ByteArray), (⟨#[]⟩ : ByteArray), (⟨#[]⟩ : ByteArray), (⟨#[]⟩ : ByteArray), false)))) else (some ((⟨#[]⟩ : ByteArray), (⟨#[]⟩ : ByteArray), (⟨#[]⟩ : ByteArray), (⟨#[]⟩ : ByteArray), false)))) else (some ((⟨#[]⟩ : ByteArray), (⟨#[]⟩ : ByteArray), (⟨#[]⟩ : ByteArray), (⟨#[]⟩ : ByteArray), false)))) else (some ((⟨#[]⟩ : ByteArray), (⟨#[]⟩ : ByteArray), (⟨#[]⟩ : ByteArray), (⟨#[]⟩ : ByteArray), false))) := by
  refine lU (spec_IntervalCut.fL_is a0_0 a0_1 a1) ?_
  unfold spec_IntervalCut.f
  repeat' with_reducible first | exact lK _ | exact spec_IntervalValid.fL_is .. | exact spec_KeyValid.fL_is .. | apply lI | apply lB | intro _
/-! ### spec_StateValid -/
noncomputable def spec_StateValid.j0L (a : Bool) (b c : ByteArray) (d : List (S29)) (e : List (S180)) (f : Bool) (g : ByteArray) : Option (Bool) := Lim (fun k => spec_StateValid.j0 k a b c d e f g)
theorem spec_StateValid.j0L_is (a : Bool) (b c : ByteArray) (d : List (S29)) (e : List (S180)) (f : Bool) (g : ByteArray) : LimIs (fun k => spec_StateValid.j0 k a b c d e f g) (spec_StateValid.j0L a b c d e f g) := LimIs.of_mono (fun k r h => (spec_StateValid.mono_l k).1 a b c d e f g r h)
noncomputable def spec_StateValid.l0L (a : Int) (b c : ByteArray) (d : List (S29)) (e : List (S180)) (g : Bool) (i : ByteArray) : Option (Bool) := Lim (fun k => spec_StateValid.l0 k a b c d e g i)
theorem spec_StateValid.l0L_is (a : Int) (b c : ByteArray) (d : List (S29)) (e : List (S180)) (g : Bool) (i : ByteArray) : LimIs (fun k => spec_StateValid.l0 k a b c d e g i) (spec_StateValid.l0L a b c d e g i) := LimIs.of_mono (fun k r h => (spec_StateValid.mono_l k).2 a b c d e g i r h)
noncomputable def spec_StateValid.fL (a0_0 a0_1 : ByteArray) (l0_2 : List (S29)) (l0_3 : List (S180)) (a0_4 : Bool) (a0_5 : ByteArray) : Option (Bool) := Lim (fun k => spec_StateValid.f k a0_0 a0_1 l0_2 l0_3 a0_4 a0_5)
theorem spec_StateValid.fL_is (a0_0 a0_1 : ByteArray) (l0_2 : List (S29)) (l0_3 : List (S180)) (a0_4 : Bool) (a0_5 : ByteArray) : LimIs (fun k => spec_StateValid.f k a0_0 a0_1 l0_2 l0_3 a0_4 a0_5) (spec_StateValid.fL a0_0 a0_1 l0_2 l0_3 a0_4 a0_5) := LimIs.of_mono (fun k r h => spec_StateValid.mono a0_0 a0_1 l0_2 l0_3 a0_4 a0_5 k r h)
theorem spec_StateValid.j0L_eq (a : Bool) (b c : ByteArray) (d : List (S29)) (e : List (S180)) (f : Bool) (g : ByteArray) : spec_StateValid.j0L a b c d e f g = if a = true then (some false) else (spec_StateValid.l0L 0 b c d e f g) := by
  refine lU (spec_StateValid.j0L_is a b c d e f g) (LimIs.step1 (by simp only [spec_StateValid.j0]) ?_)
  simp only [spec_StateValid.j0]
  repeat' with_reducible first | exact lK _ | exact spec_StateValid.l0L_is .. | apply lI | apply lB | intro _
theorem spec_StateValid.l0L_eq (a : Int) (b c : ByteArray) (d : List (S29)) (e : List (S180)) (g : Bool) (i : ByteArray) : spec_StateValid.l0L a b c d e g i = if a < (d.length : Int) then (if 0 ≤ a then ((spec_IntervalHas.fL b c ((rd_T29 d a).f0)).bind fun t357 => (if t357 = true then (spec_StateValid.l0L (wrap64 (a + 1)) b c d e g i) else (some false))) else (none)) else ((spec_IntervalCut.fL b c i).bind fun bt358 => (if i.toList = ([] : List UInt8) then (some true) else (if g = true then (some bt358.2.2.2.2) else (some false)))) := by
  refine lU (spec_StateValid.l0L_is a b c d e g i) (LimIs.step1 (by simp only [spec_StateValid.l0]) ?_)
  simp only [spec_StateValid.l0]
  repeat' with_reducible first | exact lK _ | exact spec_IntervalCut.fL_is .. | exact spec_IntervalHas.fL_is .. | exact spec_StateValid.l0L_is .. | apply lI | apply lB | intro _
theorem spec_StateValid.fL_eq (a0_0 a0_1 : ByteArray) (l0_2 : List (S29)) (l0_3 : List (S180)) (a0_4 : Bool) (a0_5 : ByteArray) : spec_StateValid.fL a0_0 a0_1 l0_2 l0_3 a0_4 a0_5 = (spec_IntervalValid.fL a0_0 a0_1).bind fun t353 => (if t353 = true then ((spec_PairsValid.fL l0_2).bind fun t354 => (if t354 = true then ((spec_SessionsValid.fL l0_3).bind fun t355 => (spec_StateValid.j0L (!t355) a0_0 a0_1 l0_2 l0_3 a0_4 a0_5)) else (spec_StateValid.j0L true a0_0 a0_1 l0_2 l0_3 a0_4 a0_5))) else (spec_StateValid.j0L true a0_0 a0_1 l0_2 l0_3 a0_4 a0_5)) := by
  refine lU (spec_StateValid.fL_is a0_0 a0_1 l0_2 l0_3 a0_4 a0_5) ?_
  unfold spec_StateValid.f
  repeat' with_reducible first | exact lK _ | exact spec_IntervalValid.fL_is .. | exact spec_PairsValid.fL_is .. | exact spec_SessionsValid.fL_is .. | exact spec_StateValid.j0L_is .. | apply lI | apply lB | intro _
/-! ### spec_CommandValid -/
noncomputable def spec_CommandValid.j0L (a : Bool) (b : Int) (c : ByteArray) (d e : Int) : Option (Bool) := Lim (fun k => spec_CommandValid.j0 k a b c d e)
theorem spec_CommandValid.j0L_is (a : Bool) (b : Int) (c : ByteArray) (d e : Int) : LimIs (fun k => spec_CommandValid.j0 k a b c d e) (spec_CommandValid.j0L a b c d e) := LimIs.of_mono (fun k r h => (spec_CommandValid.mono_l k).1 a b c d e r h)
noncomputable def spec_CommandValid.j1L (a : Int) (b : Bool) (c : Int) (d : ByteArray) (e g : Int) : Option (Bool) := Lim (fun k => spec_CommandValid.j1 k a b c d e g)
theorem spec_CommandValid.j1L_is (a : Int) (b : Bool) (c : Int) (d : ByteArray) (e g : Int) : LimIs (fun k => spec_CommandValid.j1 k a b c d e g) (spec_CommandValid.j1L a b c d e g) := LimIs.of_mono (fun k r h => (spec_CommandValid.mono_l k).2 a b c d e g r h)
noncomputable def spec_CommandValid.fL (a0_0 : Int) (a0_1 : ByteArray) (a0_2 a0_3 : Int) : Option (Bool) := Lim (fun k => spec_CommandValid.f k a0_0 a0_1 a0_2 a0_3)
theorem spec_CommandValid.fL_is (a0_0 : Int) (a0_1 : ByteArray) (a0_2 a0_3 : Int) : LimIs (fun k => spec_CommandValid.f k a0_0 a0_1 a0_2 a0_3) (spec_CommandValid.fL a0_0 a0_1 a0_2 a0_3) := LimIs.of_mono (fun k r h => spec_CommandValid.mono a0_0 a0_1 a0_2 a0_3 k r h)
theorem spec_CommandValid.j0L_eq (a : Bool) (b : Int) (c : ByteArray) (d e : Int) : spec_CommandValid.j0L a b c d e = if a = true then (some false) else (if b = 1 then (spec_CommandValid.j1L b (b == 1) b c d e) else (if b = 3 then (spec_CommandValid.j1L b (b == 3) b c d e) else (spec_CommandValid.j1L b (b == 5) b c d e))) := by
  refine lU (spec_CommandValid.j0L_is a b c d e) (LimIs.step1 (by simp only [spec_CommandValid.j0]) ?_)
  simp only [spec_CommandValid.j0]
  repeat' with_reducible first | exact lK _ | exact spec_CommandValid.j1L_is .. | apply lI | apply lB | intro _
theorem spec_CommandValid.j1L_eq (a : Int) (b : Bool) (c : Int) (d : ByteArray) (e g : Int) : spec_CommandValid.j1L a b c d e g = if b = true then (if e = 0 then (some (g == 0)) else (some false)) else (if a = 2 then ((spec_l1In.f e 0 999).bind fun t367 => (if t367 = true then (some (g == 0)) else (some false))) else (if a = 4 then ((spec_l1In.f e 0 999).bind fun t368 => (if t368 = true then ((spec_l1In.f g (-1) 999).bind fun t369 => (some t369)) else (some false))) else (some false))) := by
  refine lU (spec_CommandValid.j1L_is a b c d e g) (LimIs.step1 (by simp only [spec_CommandValid.j1]) ?_)
  simp only [spec_CommandValid.j1]
  repeat' with_reducible first | exact lK _ | apply lI | apply lB | intro _
theorem spec_CommandValid.fL_eq (a0_0 : Int) (a0_1 : ByteArray) (a0_2 a0_3 : Int) : spec_CommandValid.fL a0_0 a0_1 a0_2 a0_3 = (spec_KeyValid.fL a0_1).bind fun t366 => (if t366 = true then (spec_CommandValid.j0L false a0_0 a0_1 a0_2 a0_3) else (if a0_0 = 5 then (spec_CommandValid.j0L (a0_1.toList != ([] : List UInt8)) a0_0 a0_1 a0_2 a0_3) else (spec_CommandValid.j0L true a0_0 a0_1 a0_2 a0_3))) := by
  refine lU (spec_CommandValid.fL_is a0_0 a0_1 a0_2 a0_3) ?_
  unfold spec_CommandValid.f
  repeat' with_reducible first | exact lK _ | exact spec_CommandValid.j0L_is .. | exact spec_KeyValid.fL_is .. | apply lI | apply lB | intro _
/-! ### spec_EntryValid -/
noncomputable def spec_EntryValid.fL (a0_0 a0_1 a0_2 : Int) (a0_3 : ByteArray) (a0_4 a0_5 : Int) : Option (Bool) := Lim (fun k => spec_EntryValid.f k a0_0 a0_1 a0_2 a0_3 a0_4 a0_5)
theorem spec_EntryValid.fL_is (a0_0 a0_1 a0_2 : Int) (a0_3 : ByteArray) (a0_4 a0_5 : Int) : LimIs (fun k => spec_EntryValid.f k a0_0 a0_1 a0_2 a0_3 a0_4 a0_5) (spec_EntryValid.fL a0_0 a0_1 a0_2 a0_3 a0_4 a0_5) := LimIs.of_mono (fun k r h => spec_EntryValid.mono a0_0 a0_1 a0_2 a0_3 a0_4 a0_5 k r h)
theorem spec_EntryValid.fL_eq (a0_0 a0_1 a0_2 : Int) (a0_3 : ByteArray) (a0_4 a0_5 : Int) : spec_EntryValid.fL a0_0 a0_1 a0_2 a0_3 a0_4 a0_5 = (spec_l1In.f a0_0 0 3).bind fun t371 => (if t371 = true then ((spec_l1In.f a0_1 1 999).bind fun t372 => (if t372 = true then ((spec_CommandValid.fL a0_2 a0_3 a0_4 a0_5).bind fun t373 => (some t373)) else (some false))) else (some false)) := by
  refine lU (spec_EntryValid.fL_is a0_0 a0_1 a0_2 a0_3 a0_4 a0_5) ?_
  unfold spec_EntryValid.f
  repeat' with_reducible first | exact lK _ | exact spec_CommandValid.fL_is .. | apply lI | apply lB | intro _
/-! ### spec_l10Log -/
noncomputable def spec_l10Log.l0L (a : List (S138)) (b : Int) : Option (Bool) := Lim (fun k => spec_l10Log.l0 k a b)
theorem spec_l10Log.l0L_is (a : List (S138)) (b : Int) : LimIs (fun k => spec_l10Log.l0 k a b) (spec_l10Log.l0L a b) := LimIs.of_mono (fun k r h => (spec_l10Log.mono_l k) a b r h)
noncomputable def spec_l10Log.fL (l0 : List (S138)) : Option (Bool) := Lim (fun k => spec_l10Log.f k l0)
theorem spec_l10Log.fL_is (l0 : List (S138)) : LimIs (fun k => spec_l10Log.f k l0) (spec_l10Log.fL l0) := LimIs.of_mono (fun k r h => spec_l10Log.mono l0 k r h)
theorem spec_l10Log.l0L_eq (a : List (S138)) (b : Int) : spec_l10Log.l0L a b = if b < (a.length : Int) then (if b ≥ 24 then (some false) else (if 0 ≤ b then ((spec_EntryValid.fL ((rd_T138 a b).f0) ((rd_T138 a b).f1) ((rd_T138 a b).f2.f0) ((rd_T138 a b).f2.f1) ((rd_T138 a b).f2.f2) ((rd_T138 a b).f2.f3)).bind fun t375 => (if t375 = true then (spec_l10Log.l0L a (wrap64 (b + 1))) else (some false))) else (none))) else (some true) := by
  refine lU (spec_l10Log.l0L_is a b) (LimIs.step1 (by simp only [spec_l10Log.l0]) ?_)
  simp only [spec_l10Log.l0]
  repeat' with_reducible first | exact lK _ | exact spec_EntryValid.fL_is .. | exact spec_l10Log.l0L_is .. | apply lI | apply lB | intro _
theorem spec_l10Log.fL_eq (l0 : List (S138)) : spec_l10Log.fL l0 = spec_l10Log.l0L l0 0 := by
  refine lU (spec_l10Log.fL_is l0) ?_
  unfold spec_l10Log.f
  repeat' with_reducible first | exact lK _ | exact spec_l10Log.l0L_is .. | apply lI | apply lB | intro _
/-! ### spec_PairDrop -/
noncomputable def spec_PairDrop.fL (l0 : List (S29)) (a1 : ByteArray) : Option ((List (S29)) × Bool) := Lim (fun k => spec_PairDrop.f k l0 a1)
theorem spec_PairDrop.fL_is (l0 : List (S29)) (a1 : ByteArray) : LimIs (fun k => spec_PairDrop.f k l0 a1) (spec_PairDrop.fL l0 a1) := LimIs.of_mono (fun k r h => spec_PairDrop.mono l0 a1 k r h)
theorem spec_PairDrop.fL_eq (l0 : List (S29)) (a1 : ByteArray) : spec_PairDrop.fL l0 a1 = (some (([] : List (S29)) : List (S29))).bind fun y390 => ((spec_PairsValid.fL l0).bind fun t393 => (if t393 = true then ((spec_l4Place.fL l0 a1).bind fun t394 => (if t394 = (l0.length : Int) then (if y390.length + l0.length < 5864062014805 then (some ((y390 ++ l0), false)) else (none)) else (if 0 ≤ t394 then (if t394 < (l0.length : Int) then (if ((rd_T29 l0 t394).f0).toList = a1.toList then (if t394 ≤ (l0.length : Int) then ((some (l0.take (t394 : Int).toNat : List (S29))).bind fun y399 => (if y390.length + y399.length < 5864062014805 then ((some (y390 ++ y399 : List (S29))).bind fun y403 => (if 0 ≤ (wrap64 (t394 + 1)) then (if (wrap64 (t394 + 1)) ≤ (l0.length : Int) then ((some (l0.drop ((wrap64 (t394 + 1)) : Int).toNat : List (S29))).bind fun y406 => (if y403.length + y406.length < 5864062014805 then (some ((y403 ++ y406), true)) else (none))) else (none)) else (none))) else (none))) else (none)) else (if y390.length + l0.length < 5864062014805 then (some ((y390 ++ l0), false)) else (none))) else (none)) else (none)))) else (some (y390, false)))) := by
  refine lU (spec_PairDrop.fL_is l0 a1) ?_
  unfold spec_PairDrop.f
  repeat' with_reducible first | exact lK _ | exact spec_PairsValid.fL_is .. | exact spec_l4Place.fL_is .. | apply lI | apply lB | intro _
/-! ### spec_ApplyCommand -/
noncomputable def spec_ApplyCommand.j0L (a : List (S29)) (b : Bool) (c : Int) (d : ByteArray) (e g : Int) : Option ((List (S29)) × Int) := Lim (fun k => spec_ApplyCommand.j0 k a b c d e g)
theorem spec_ApplyCommand.j0L_is (a : List (S29)) (b : Bool) (c : Int) (d : ByteArray) (e g : Int) : LimIs (fun k => spec_ApplyCommand.j0 k a b c d e g) (spec_ApplyCommand.j0L a b c d e g) := LimIs.of_mono (fun k r h => (spec_ApplyCommand.mono_l k).1 a b c d e g r h)
noncomputable def spec_ApplyCommand.j1L (a b : List (S29)) (c : Int) (d : Bool) (e : Int) (g : ByteArray) (i j : Int) : Option ((List (S29)) × Int) := Lim (fun k => spec_ApplyCommand.j1 k a b c d e g i j)
theorem spec_ApplyCommand.j1L_is (a b : List (S29)) (c : Int) (d : Bool) (e : Int) (g : ByteArray) (i j : Int) : LimIs (fun k => spec_ApplyCommand.j1 k a b c d e g i j) (spec_ApplyCommand.j1L a b c d e g i j) := LimIs.of_mono (fun k r h => (spec_ApplyCommand.mono_l k).2 a b c d e g i j r h)
noncomputable def spec_ApplyCommand.fL (l0 : List (S29)) (a1_0 : Int) (a1_1 : ByteArray) (a1_2 a1_3 : Int) : Option ((List (S29)) × Int) := Lim (fun k => spec_ApplyCommand.f k l0 a1_0 a1_1 a1_2 a1_3)
theorem spec_ApplyCommand.fL_is (l0 : List (S29)) (a1_0 : Int) (a1_1 : ByteArray) (a1_2 a1_3 : Int) : LimIs (fun k => spec_ApplyCommand.f k l0 a1_0 a1_1 a1_2 a1_3) (spec_ApplyCommand.fL l0 a1_0 a1_1 a1_2 a1_3) := LimIs.of_mono (fun k r h => spec_ApplyCommand.mono l0 a1_0 a1_1 a1_2 a1_3 k r h)
theorem spec_ApplyCommand.j0L_eq (a : List (S29)) (b : Bool) (c : Int) (d : ByteArray) (e g : Int) : spec_ApplyCommand.j0L a b c d e g = if b = true then (some ((([] : List (S29))), (-3))) else ((some (([] : List (S29)) : List (S29))).bind fun y422 => (if y422.length + a.length < 5864062014805 then ((some (y422 ++ a : List (S29))).bind fun y425 => ((spec_PairGet.fL a d).bind fun t428 => (if c = 1 then (spec_ApplyCommand.j1L a y425 t428 true c d e g) else (if c = 4 then (spec_ApplyCommand.j1L a y425 t428 (g != t428) c d e g) else (spec_ApplyCommand.j1L a y425 t428 false c d e g))))) else (none))) := by
  refine lU (spec_ApplyCommand.j0L_is a b c d e g) (LimIs.step1 (by simp only [spec_ApplyCommand.j0]) ?_)
  simp only [spec_ApplyCommand.j0]
  repeat' with_reducible first | exact lK _ | exact spec_ApplyCommand.j1L_is .. | exact spec_PairGet.fL_is .. | apply lI | apply lB | intro _
theorem spec_ApplyCommand.j1L_eq (a b : List (S29)) (c : Int) (d : Bool) (e : Int) (g : ByteArray) (i j : Int) : spec_ApplyCommand.j1L a b c d e g i j = if d = true then (some (b, c)) else (if e = 3 then ((spec_PairDrop.fL a g).bind fun bt429 => (some (bt429.1, c))) else (if c < 0 then (if (a.length : Int) ≥ 8 then (some (b, (-2))) else ((spec_PairPut.fL a g i).bind fun bt433 => (some (bt433.1, c)))) else ((spec_PairPut.fL a g i).bind fun bt437 => (some (bt437.1, c))))) := by
  refine lU (spec_ApplyCommand.j1L_is a b c d e g i j) (LimIs.step1 (by simp only [spec_ApplyCommand.j1]) ?_)
  simp only [spec_ApplyCommand.j1]
  repeat' with_reducible first | exact lK _ | exact spec_PairDrop.fL_is .. | exact spec_PairPut.fL_is .. | apply lI | apply lB | intro _
theorem spec_ApplyCommand.fL_eq (l0 : List (S29)) (a1_0 : Int) (a1_1 : ByteArray) (a1_2 a1_3 : Int) : spec_ApplyCommand.fL l0 a1_0 a1_1 a1_2 a1_3 = (spec_PairsValid.fL l0).bind fun t417 => (if t417 = true then ((spec_CommandValid.fL a1_0 a1_1 a1_2 a1_3).bind fun t418 => (if t418 = true then (spec_ApplyCommand.j0L l0 (a1_0 == 5) a1_0 a1_1 a1_2 a1_3) else (spec_ApplyCommand.j0L l0 true a1_0 a1_1 a1_2 a1_3))) else (spec_ApplyCommand.j0L l0 true a1_0 a1_1 a1_2 a1_3)) := by
  refine lU (spec_ApplyCommand.fL_is l0 a1_0 a1_1 a1_2 a1_3) ?_
  unfold spec_ApplyCommand.f
  repeat' with_reducible first | exact lK _ | exact spec_ApplyCommand.j0L_is .. | exact spec_CommandValid.fL_is .. | exact spec_PairsValid.fL_is .. | apply lI | apply lB | intro _
/-! ### spec_ApplyEntry -/
noncomputable def spec_ApplyEntry.j0L (a : Bool) (b c : ByteArray) (d : List (S29)) (e : List (S180)) (g : Bool) (i : ByteArray) (j l m : Int) (n : ByteArray) (o p : Int) : Option (ByteArray × ByteArray × (List (S29)) × (List (S180)) × Bool × ByteArray × Int) := Lim (fun k => spec_ApplyEntry.j0 k a b c d e g i j l m n o p)
theorem spec_ApplyEntry.j0L_is (a : Bool) (b c : ByteArray) (d : List (S29)) (e : List (S180)) (g : Bool) (i : ByteArray) (j l m : Int) (n : ByteArray) (o p : Int) : LimIs (fun k => spec_ApplyEntry.j0 k a b c d e g i j l m n o p) (spec_ApplyEntry.j0L a b c d e g i j l m n o p) := LimIs.of_mono (fun k r h => (spec_ApplyEntry.mono_l k).1 a b c d e g i j l m n o p r h)
noncomputable def spec_ApplyEntry.j1L (a b : Bool) (c d : ByteArray) (e : List (S29)) (g : List (S180)) (i : Bool) (j : ByteArray) (l m n : Int) (o : ByteArray) (p q : Int) (s u : ByteArray) (v : List (S29)) (w : List (S180)) (x : Bool) (y : ByteArray) : Option (ByteArray × ByteArray × (List (S29)) × (List (S180)) × Bool × ByteArray × Int) := Lim (fun k => spec_ApplyEntry.j1 k a b c d e g i j l m n o p q s u v w x y)
theorem spec_ApplyEntry.j1L_is (a b : Bool) (c d : ByteArray) (e : List (S29)) (g : List (S180)) (i : Bool) (j : ByteArray) (l m n : Int) (o : ByteArray) (p q : Int) (s u : ByteArray) (v : List (S29)) (w : List (S180)) (x : Bool) (y : ByteArray) : LimIs (fun k => spec_ApplyEntry.j1 k a b c d e g i j l m n o p q s u v w x y) (spec_ApplyEntry.j1L a b c d e g i j l m n o p q s u v w x y) := LimIs.of_mono (fun k r h => (spec_ApplyEntry.mono_l k).2 a b c d e g i j l m n o p q s u v w x y r h)
noncomputable def spec_ApplyEntry.fL (a0_0 a0_1 : ByteArray) (l0_2 : List (S29)) (l0_3 : List (S180)) (a0_4 : Bool) (a0_5 : ByteArray) (a1_0 a1_1 a1_2 : Int) (a1_3 : ByteArray) (a1_4 a1_5 : Int) : Option (ByteArray × ByteArray × (List (S29)) × (List (S180)) × Bool × ByteArray × Int) := Lim (fun k => spec_ApplyEntry.f k a0_0 a0_1 l0_2 l0_3 a0_4 a0_5 a1_0 a1_1 a1_2 a1_3 a1_4 a1_5)
theorem spec_ApplyEntry.fL_is (a0_0 a0_1 : ByteArray) (l0_2 : List (S29)) (l0_3 : List (S180)) (a0_4 : Bool) (a0_5 : ByteArray) (a1_0 a1_1 a1_2 : Int) (a1_3 : ByteArray) (a1_4 a1_5 : Int) : LimIs (fun k => spec_ApplyEntry.f k a0_0 a0_1 l0_2 l0_3 a0_4 a0_5 a1_0 a1_1 a1_2 a1_3 a1_4 a1_5) (spec_ApplyEntry.fL a0_0 a0_1 l0_2 l0_3 a0_4 a0_5 a1_0 a1_1 a1_2 a1_3 a1_4 a1_5) := LimIs.of_mono (fun k r h => spec_ApplyEntry.mono a0_0 a0_1 l0_2 l0_3 a0_4 a0_5 a1_0 a1_1 a1_2 a1_3 a1_4 a1_5 k r h)
theorem spec_ApplyEntry.j0L_eq (a : Bool) (b c : ByteArray) (d : List (S29)) (e : List (S180)) (g : Bool) (i : ByteArray) (j l m : Int) (n : ByteArray) (o p : Int) : spec_ApplyEntry.j0L a b c d e g i j l m n o p = if a = true then (some ((⟨#[]⟩ : ByteArray), (⟨#[]⟩ : ByteArray), ([] : List (S29)), ([] : List (S180)), false, (⟨#[]⟩ : ByteArray), (-3))) else ((spec_l10Copy.f b c d e g i).bind fun bt446 => ((spec_l9Find.fL e j).bind fun bt457 => (if bt457.2.1 = l then (some (bt446.1, bt446.2.1, bt446.2.2.1, bt446.2.2.2.1, bt446.2.2.2.2.1, bt446.2.2.2.2.2, bt457.2.2)) else (if bt457.2.1 > l then (some (bt446.1, bt446.2.1, bt446.2.2.1, bt446.2.2.2.1, bt446.2.2.2.2.1, bt446.2.2.2.2.2, (-4))) else (if g = true then (some (bt446.1, bt446.2.1, bt446.2.2.1, bt446.2.2.2.1, bt446.2.2.2.2.1, bt446.2.2.2.2.2, (-3))) else ((spec_IntervalCut.fL b c n).bind fun bt461 => (if m = 5 then (if n.toList = ([] : List UInt8) then (spec_ApplyEntry.j1L (m == 5) false b c d e g i j l m n o p bt446.1 bt446.2.1 bt446.2.2.1 bt446.2.2.2.1 bt446.2.2.2.2.1 bt446.2.2.2.2.2) else (if bt461.2.2.2.2 = true then (spec_ApplyEntry.j1L (m == 5) false b c d e g i j l m n o p bt446.1 bt446.2.1 bt446.2.2.1 bt446.2.2.2.1 bt446.2.2.2.2.1 bt446.2.2.2.2.2) else (spec_ApplyEntry.j1L (m == 5) true b c d e g i j l m n o p bt446.1 bt446.2.1 bt446.2.2.1 bt446.2.2.2.1 bt446.2.2.2.2.1 bt446.2.2.2.2.2))) else ((spec_IntervalHas.fL b c n).bind fun t468 => (spec_ApplyEntry.j1L (m == 5) (!t468) b c d e g i j l m n o p bt446.1 bt446.2.1 bt446.2.2.1 bt446.2.2.2.1 bt446.2.2.2.2.1 bt446.2.2.2.2.2))))))))) := by
  refine lU (spec_ApplyEntry.j0L_is a b c d e g i j l m n o p) (LimIs.step1 (by simp only [spec_ApplyEntry.j0]) ?_)
  simp only [spec_ApplyEntry.j0]
  repeat' with_reducible first | exact lK _ | exact spec_ApplyEntry.j1L_is .. | exact spec_IntervalCut.fL_is .. | exact spec_IntervalHas.fL_is .. | exact spec_l9Find.fL_is .. | apply lI | apply lB | intro _
theorem spec_ApplyEntry.j1L_eq (a b : Bool) (c d : ByteArray) (e : List (S29)) (g : List (S180)) (i : Bool) (j : ByteArray) (l m n : Int) (o : ByteArray) (p q : Int) (s u : ByteArray) (v : List (S29)) (w : List (S180)) (x : Bool) (y : ByteArray) : spec_ApplyEntry.j1L a b c d e g i j l m n o p q s u v w x y = if b = true then (some (s, u, v, w, x, y, (-3))) else (if a = true then ((spec_SessionPut.fL w l m 0).bind fun bt469 => (some (s, u, v, bt469.1, true, o, 0))) else ((spec_ApplyCommand.fL e n o p q).bind fun bt473 => ((spec_SessionPut.fL w l m bt473.2).bind fun bt477 => (some (s, u, bt473.1, bt477.1, x, y, bt473.2))))) := by
  refine lU (spec_ApplyEntry.j1L_is a b c d e g i j l m n o p q s u v w x y) (LimIs.step1 (by simp only [spec_ApplyEntry.j1]) ?_)
  simp only [spec_ApplyEntry.j1]
  repeat' with_reducible first | exact lK _ | exact spec_ApplyCommand.fL_is .. | exact spec_SessionPut.fL_is .. | apply lI | apply lB | intro _
theorem spec_ApplyEntry.fL_eq (a0_0 a0_1 : ByteArray) (l0_2 : List (S29)) (l0_3 : List (S180)) (a0_4 : Bool) (a0_5 : ByteArray) (a1_0 a1_1 a1_2 : Int) (a1_3 : ByteArray) (a1_4 a1_5 : Int) : spec_ApplyEntry.fL a0_0 a0_1 l0_2 l0_3 a0_4 a0_5 a1_0 a1_1 a1_2 a1_3 a1_4 a1_5 = (spec_StateValid.fL a0_0 a0_1 l0_2 l0_3 a0_4 a0_5).bind fun t444 => (if t444 = true then ((spec_EntryValid.fL a1_0 a1_1 a1_2 a1_3 a1_4 a1_5).bind fun t445 => (spec_ApplyEntry.j0L (!t445) a0_0 a0_1 l0_2 l0_3 a0_4 a0_5 a1_0 a1_1 a1_2 a1_3 a1_4 a1_5)) else (spec_ApplyEntry.j0L true a0_0 a0_1 l0_2 l0_3 a0_4 a0_5 a1_0 a1_1 a1_2 a1_3 a1_4 a1_5)) := by
  refine lU (spec_ApplyEntry.fL_is a0_0 a0_1 l0_2 l0_3 a0_4 a0_5 a1_0 a1_1 a1_2 a1_3 a1_4 a1_5) ?_
  unfold spec_ApplyEntry.f
  repeat' with_reducible first | exact lK _ | exact spec_ApplyEntry.j0L_is .. | exact spec_EntryValid.fL_is .. | exact spec_StateValid.fL_is .. | apply lI | apply lB | intro _
/-! ### spec_ChangesOf -/
noncomputable def spec_ChangesOf.j0L (a : List (S138)) (b : List (S75)) (c : Bool) (d e : ByteArray) (g : List (S29)) (i : List (S180)) (j : Bool) (l : ByteArray) : Option ((List (S75))) := Lim (fun k => spec_ChangesOf.j0 k a b c d e g i j l)
theorem spec_ChangesOf.j0L_is (a : List (S138)) (b : List (S75)) (c : Bool) (d e : ByteArray) (g : List (S29)) (i : List (S180)) (j : Bool) (l : ByteArray) : LimIs (fun k => spec_ChangesOf.j0 k a b c d e g i j l) (spec_ChangesOf.j0L a b c d e g i j l) := LimIs.of_mono (fun k r h => (spec_ChangesOf.mono_l k).1 a b c d e g i j l r h)
noncomputable def spec_ChangesOf.l0L (a : List (S138)) (b : List (S75)) (c : Int) (d e : ByteArray) (g : List (S29)) (i : List (S180)) (j : Bool) (l : ByteArray) : Option ((List (S75))) := Lim (fun k => spec_ChangesOf.l0 k a b c d e g i j l)
theorem spec_ChangesOf.l0L_is (a : List (S138)) (b : List (S75)) (c : Int) (d e : ByteArray) (g : List (S29)) (i : List (S180)) (j : Bool) (l : ByteArray) : LimIs (fun k => spec_ChangesOf.l0 k a b c d e g i j l) (spec_ChangesOf.l0L a b c d e g i j l) := LimIs.of_mono (fun k r h => (spec_ChangesOf.mono_l k).2 a b c d e g i j l r h)
noncomputable def spec_ChangesOf.fL (a0_0 a0_1 : ByteArray) (l0_2 : List (S29)) (l0_3 : List (S180)) (a0_4 : Bool) (a0_5 : ByteArray) (l1 : List (S138)) : Option ((List (S75))) := Lim (fun k => spec_ChangesOf.f k a0_0 a0_1 l0_2 l0_3 a0_4 a0_5 l1)
theorem spec_ChangesOf.fL_is (a0_0 a0_1 : ByteArray) (l0_2 : List (S29)) (l0_3 : List (S180)) (a0_4 : Bool) (a0_5 : ByteArray) (l1 : List (S138)) : LimIs (fun k => spec_ChangesOf.f k a0_0 a0_1 l0_2 l0_3 a0_4 a0_5 l1) (spec_ChangesOf.fL a0_0 a0_1 l0_2 l0_3 a0_4 a0_5 l1) := LimIs.of_mono (fun k r h => spec_ChangesOf.mono a0_0 a0_1 l0_2 l0_3 a0_4 a0_5 l1 k r h)
theorem spec_ChangesOf.j0L_eq (a : List (S138)) (b : List (S75)) (c : Bool) (d e : ByteArray) (g : List (S29)) (i : List (S180)) (j : Bool) (l : ByteArray) : spec_ChangesOf.j0L a b c d e g i j l = if c = true then (some b) else ((spec_l10Copy.f d e g i j l).bind fun bt487 => (spec_ChangesOf.l0L a b 0 bt487.1 bt487.2.1 bt487.2.2.1 bt487.2.2.2.1 bt487.2.2.2.2.1 bt487.2.2.2.2.2)) := by
  refine lU (spec_ChangesOf.j0L_is a b c d e g i j l) (LimIs.step1 (by simp only [spec_ChangesOf.j0]) ?_)
  simp only [spec_ChangesOf.j0]
  repeat' with_reducible first | exact lK _ | exact spec_ChangesOf.l0L_is .. | apply lI | apply lB | intro _
theorem spec_ChangesOf.l0L_eq (a : List (S138)) (b : List (S75)) (c : Int) (d e : ByteArray) (g : List (S29)) (i : List (S180)) (j : Bool) (l : ByteArray) : spec_ChangesOf.l0L a b c d e g i j l = if c < (a.length : Int) then (if 0 ≤ c then ((spec_ApplyEntry.fL d e g i j l ((rd_T138 a c).f0) ((rd_T138 a c).f1) ((rd_T138 a c).f2.f0) ((rd_T138 a c).f2.f1) ((rd_T138 a c).f2.f2) ((rd_T138 a c).f2.f3)).bind fun bt500 => ((spec_PairGet.fL g ((rd_T138 a c).f2.f1)).bind fun t512 => ((spec_PairGet.fL bt500.2.2.1 ((rd_T138 a c).f2.f1)).bind fun t513 => (if t512 = t513 then (spec_ChangesOf.l0L a b (wrap64 (c + 1)) bt500.1 bt500.2.1 bt500.2.2.1 bt500.2.2.2.1 bt500.2.2.2.2.1 bt500.2.2.2.2.2.1) else (if b.length < 3518437208883 then (spec_ChangesOf.l0L a (b ++ [(⟨c, (rd_T138 a c).f2.f1, t512, t513⟩ : S75)]) (wrap64 (c + 1)) bt500.1 bt500.2.1 bt500.2.2.1 bt500.2.2.2.1 bt500.2.2.2.2.1 bt500.2.2.2.2.2.1) else (none)))))) else (none)) else (some b) := by
  refine lU (spec_ChangesOf.l0L_is a b c d e g i j l) (LimIs.step1 (by simp only [spec_ChangesOf.l0]) ?_)
  simp only [spec_ChangesOf.l0]
  repeat' with_reducible first | exact lK _ | exact spec_ApplyEntry.fL_is .. | exact spec_ChangesOf.l0L_is .. | exact spec_PairGet.fL_is .. | apply lI | apply lB | intro _
theorem spec_ChangesOf.fL_eq (a0_0 a0_1 : ByteArray) (l0_2 : List (S29)) (l0_3 : List (S180)) (a0_4 : Bool) (a0_5 : ByteArray) (l1 : List (S138)) : spec_ChangesOf.fL a0_0 a0_1 l0_2 l0_3 a0_4 a0_5 l1 = (some (([] : List (S75)) : List (S75))).bind fun y482 => ((spec_StateValid.fL a0_0 a0_1 l0_2 l0_3 a0_4 a0_5).bind fun t485 => (if t485 = true then ((spec_l10Log.fL l1).bind fun t486 => (spec_ChangesOf.j0L l1 y482 (!t486) a0_0 a0_1 l0_2 l0_3 a0_4 a0_5)) else (spec_ChangesOf.j0L l1 y482 true a0_0 a0_1 l0_2 l0_3 a0_4 a0_5))) := by
  refine lU (spec_ChangesOf.fL_is a0_0 a0_1 l0_2 l0_3 a0_4 a0_5 l1) ?_
  unfold spec_ChangesOf.f
  repeat' with_reducible first | exact lK _ | exact spec_ChangesOf.j0L_is .. | exact spec_StateValid.fL_is .. | exact spec_l10Log.fL_is .. | apply lI | apply lB | intro _
/-! ### spec_l20Cmd -/
noncomputable def spec_l20Cmd.j0L (a : ByteArray) (b : List Int) (c : Int) : Option (Int × ByteArray × Int × Int × Int) := Lim (fun k => spec_l20Cmd.j0 k a b c)
theorem spec_l20Cmd.j0L_is (a : ByteArray) (b : List Int) (c : Int) : LimIs (fun k => spec_l20Cmd.j0 k a b c) (spec_l20Cmd.j0L a b c) := LimIs.of_mono (fun k r h => (spec_l20Cmd.mono_l k) a b c r h)
noncomputable def spec_l20Cmd.fL (s0_0 : List Int) (s0_1 a1 : Int) : Option (Int × ByteArray × Int × Int × Int) := Lim (fun k => spec_l20Cmd.f k s0_0 s0_1 a1)
theorem spec_l20Cmd.fL_is (s0_0 : List Int) (s0_1 a1 : Int) : LimIs (fun k => spec_l20Cmd.f k s0_0 s0_1 a1) (spec_l20Cmd.fL s0_0 s0_1 a1) := LimIs.of_mono (fun k r h => spec_l20Cmd.mono s0_0 s0_1 a1 k r h)
theorem spec_l20Cmd.j0L_eq (a : ByteArray) (b : List Int) (c : Int) : spec_l20Cmd.j0L a b c = (spec_l20Rd_pick.fL b c 8).bind fun bt536 => (if bt536.1 = 0 then (some (1, a, 0, 0, bt536.2)) else (if bt536.1 = 1 then (some (3, a, 0, 0, bt536.2)) else (if bt536.1 = 2 then ((spec_l20Rd_pick.fL b bt536.2 5).bind fun bt538 => ((spec_l20Rd_pick.fL b bt538.2 5).bind fun bt540 => (some (4, a, bt540.1, wrap64 (bt538.1 - 1), bt540.2)))) else ((spec_l20Value.fL b bt536.2 0).bind fun bt542 => (some (2, a, Int.tmod bt542.1 1000, 0, bt542.2)))))) := by
  refine lU (spec_l20Cmd.j0L_is a b c) (LimIs.step1 (by simp only [spec_l20Cmd.j0]) ?_)
  simp only [spec_l20Cmd.j0]
  repeat' with_reducible first | exact lK _ | exact spec_l20Rd_pick.fL_is .. | exact spec_l20Value.fL_is .. | apply lI | apply lB | intro _
theorem spec_l20Cmd.fL_eq (s0_0 : List Int) (s0_1 a1 : Int) : spec_l20Cmd.fL s0_0 s0_1 a1 = (spec_l20Rd_odd.fL s0_0 s0_1 a1).bind fun bt518 => (if bt518.1 = true then ((some (([(⟨0, (⟨#[]⟩ : ByteArray), 0, 0⟩ : S40), (⟨1, (⟨#[]⟩ : ByteArray), 0, 0⟩ : S40), (⟨1, (⟨#[98]⟩ : ByteArray), 1, 0⟩ : S40), (⟨2, (⟨#[98]⟩ : ByteArray), 1000, 0⟩ : S40), (⟨2, (⟨#[98]⟩ : ByteArray), 0, 1⟩ : S40), (⟨4, (⟨#[98]⟩ : ByteArray), 0, (-2)⟩ : S40), (⟨4, (⟨#[98]⟩ : ByteArray), (-1), 0⟩ : S40), (⟨6, (⟨#[98]⟩ : ByteArray), 0, 0⟩ : S40), (⟨3, (⟨#[65]⟩ : ByteArray), 0, 0⟩ : S40), (⟨5, (⟨#[98, 49]⟩ : ByteArray), 0, 0⟩ : S40)] : List (S40)) : List (S40))).bind fun y520 => ((spec_l20Rd_pick.fL s0_0 bt518.2 10).bind fun bt523 => (if 0 ≤ bt523.1 then (if bt523.1 < (y520.length : Int) then (some ((rd_T40 y520 bt523.1).f0, (rd_T40 y520 bt523.1).f1, (rd_T40 y520 bt523.1).f2, (rd_T40 y520 bt523.1).f3, bt523.2)) else (none)) else (none)))) else ((spec_l20Key.fL s0_0 bt518.2 0).bind fun bt526 => ((spec_l20Rd_pick.fL s0_0 bt526.2 2).bind fun bt528 => (if bt528.1 = 0 then ((some (([(⟨#[98]⟩ : ByteArray), (⟨#[99]⟩ : ByteArray), (⟨#[100]⟩ : ByteArray), (⟨#[109]⟩ : ByteArray)] : List ByteArray) : List ByteArray)).bind fun y530 => ((spec_l20Rd_pick.fL s0_0 bt528.2 4).bind fun bt533 => (if 0 ≤ bt533.1 then (if bt533.1 < (y530.length : Int) then (spec_l20Cmd.j0L (rdOf ByteArray.empty y530 bt533.1) s0_0 bt533.2) else (none)) else (none)))) else (spec_l20Cmd.j0L bt526.1 s0_0 bt528.2))))) := by
  refine lU (spec_l20Cmd.fL_is s0_0 s0_1 a1) ?_
  unfold spec_l20Cmd.f
  repeat' with_reducible first | exact lK _ | exact spec_l20Cmd.j0L_is .. | exact spec_l20Key.fL_is .. | exact spec_l20Rd_odd.fL_is .. | exact spec_l20Rd_pick.fL_is .. | apply lI | apply lB | intro _
/-! ### spec_l20Any -/
noncomputable def spec_l20Any.fL (s0_0 : List Int) (s0_1 a1 : Int) : Option (Int × ByteArray × Int × Int × Int) := Lim (fun k => spec_l20Any.f k s0_0 s0_1 a1)
theorem spec_l20Any.fL_is (s0_0 : List Int) (s0_1 a1 : Int) : LimIs (fun k => spec_l20Any.f k s0_0 s0_1 a1) (spec_l20Any.fL s0_0 s0_1 a1) := LimIs.of_mono (fun k r h => spec_l20Any.mono s0_0 s0_1 a1 k r h)
theorem spec_l20Any.fL_eq (s0_0 : List Int) (s0_1 a1 : Int) : spec_l20Any.fL s0_0 s0_1 a1 = (spec_l20Cmd.fL s0_0 s0_1 a1).bind fun bt545 => ((spec_l20Rd_pick.fL s0_0 bt545.2.2.2.2 5).bind fun bt551 => (if bt551.1 = 0 then ((spec_l20Key.fL s0_0 bt551.2 0).bind fun bt553 => ((some (([(⟨#[]⟩ : ByteArray), (⟨#[98]⟩ : ByteArray), (⟨#[99]⟩ : ByteArray), bt553.1] : List ByteArray) : List ByteArray)).bind fun y555 => ((spec_l20Rd_pick.fL s0_0 bt553.2 4).bind fun bt558 => (if 0 ≤ bt558.1 then (if bt558.1 < (y555.length : Int) then (some (5, rdOf ByteArray.empty y555 bt558.1, 0, 0, bt558.2)) else (none)) else (none))))) else (some (bt545.1, bt545.2.1, bt545.2.2.1, bt545.2.2.2.1, bt551.2)))) := by
  refine lU (spec_l20Any.fL_is s0_0 s0_1 a1) ?_
  unfold spec_l20Any.f
  repeat' with_reducible first | exact lK _ | exact spec_l20Cmd.fL_is .. | exact spec_l20Key.fL_is .. | exact spec_l20Rd_pick.fL_is .. | apply lI | apply lB | intro _
/-! ### spec_l20Entry -/
noncomputable def spec_l20Entry.fL (s0_0 : List Int) (s0_1 a1 : Int) : Option (Int × Int × Int × ByteArray × Int × Int × Int) := Lim (fun k => spec_l20Entry.f k s0_0 s0_1 a1)
theorem spec_l20Entry.fL_is (s0_0 : List Int) (s0_1 a1 : Int) : LimIs (fun k => spec_l20Entry.f k s0_0 s0_1 a1) (spec_l20Entry.fL s0_0 s0_1 a1) := LimIs.of_mono (fun k r h => spec_l20Entry.mono s0_0 s0_1 a1 k r h)
theorem spec_l20Entry.fL_eq (s0_0 : List Int) (s0_1 a1 : Int) : spec_l20Entry.fL s0_0 s0_1 a1 = (spec_l20Rd_pick.fL s0_0 s0_1 4).bind fun bt562 => ((spec_l20Rd_pick.fL s0_0 bt562.2 6).bind fun bt564 => ((spec_l20Any.fL s0_0 bt564.2 0).bind fun bt566 => ((spec_l20Rd_odd.fL s0_0 bt566.2.2.2.2 a1).bind fun bt572 => (if bt572.1 = true then ((some (([(⟨0, 0, (⟨0, (⟨#[]⟩ : ByteArray), 0, 0⟩ : S40)⟩ : S138), (⟨4, 1, (⟨bt566.1, bt566.2.1, bt566.2.2.1, bt566.2.2.2.1⟩ : S40)⟩ : S138), (⟨(-1), 1, (⟨bt566.1, bt566.2.1, bt566.2.2.1, bt566.2.2.2.1⟩ : S40)⟩ : S138), (⟨1, 0, (⟨bt566.1, bt566.2.1, bt566.2.2.1, bt566.2.2.2.1⟩ : S40)⟩ : S138), (⟨1, 1000, (⟨bt566.1, bt566.2.1, bt566.2.2.1, bt566.2.2.2.1⟩ : S40)⟩ : S138), (⟨1, 1, (⟨0, (⟨#[]⟩ : ByteArray), 0, 0⟩ : S40)⟩ : S138)] : List (S138)) : List (S138))).bind fun y574 => ((spec_l20Rd_pick.fL s0_0 bt572.2 6).bind fun bt577 => (if 0 ≤ bt577.1 then (if bt577.1 < (y574.length : Int) then (some ((rd_T138 y574 bt577.1).f0, (rd_T138 y574 bt577.1).f1, (rd_T138 y574 bt577.1).f2.f0, (rd_T138 y574 bt577.1).f2.f1, (rd_T138 y574 bt577.1).f2.f2, (rd_T138 y574 bt577.1).f2.f3, bt577.2)) else (none)) else (none)))) else (some (bt562.1, wrap64 (1 + bt564.1), bt566.1, bt566.2.1, bt566.2.2.1, bt566.2.2.2.1, bt572.2)))))) := by
  refine lU (spec_l20Entry.fL_is s0_0 s0_1 a1) ?_
  unfold spec_l20Entry.f
  repeat' with_reducible first | exact lK _ | exact spec_l20Any.fL_is .. | exact spec_l20Rd_odd.fL_is .. | exact spec_l20Rd_pick.fL_is .. | apply lI | apply lB | intro _
/-! ### spec_l20Log -/
noncomputable def spec_l20Log.l0L (a : Int) (b : List (S138)) (c : Int) (d : List Int) (e : Int) : Option ((List (S138)) × Int) := Lim (fun k => spec_l20Log.l0 k a b c d e)
theorem spec_l20Log.l0L_is (a : Int) (b : List (S138)) (c : Int) (d : List Int) (e : Int) : LimIs (fun k => spec_l20Log.l0 k a b c d e) (spec_l20Log.l0L a b c d e) := LimIs.of_mono (fun k r h => (spec_l20Log.mono_l k).1 a b c d e r h)
noncomputable def spec_l20Log.j1L (a : Int) (b : List (S138)) (c : Int) (d : Bool) (e : List Int) (g i j l : Int) (m : ByteArray) (n o : Int) : Option ((List (S138)) × Int) := Lim (fun k => spec_l20Log.j1 k a b c d e g i j l m n o)
theorem spec_l20Log.j1L_is (a : Int) (b : List (S138)) (c : Int) (d : Bool) (e : List Int) (g i j l : Int) (m : ByteArray) (n o : Int) : LimIs (fun k => spec_l20Log.j1 k a b c d e g i j l m n o) (spec_l20Log.j1L a b c d e g i j l m n o) := LimIs.of_mono (fun k r h => (spec_l20Log.mono_l k).2.1 a b c d e g i j l m n o r h)
noncomputable def spec_l20Log.j2L (a : Int) (b : List (S138)) (c : Int) (d : List Int) (e g i j : Int) (l : ByteArray) (m n : Int) : Option ((List (S138)) × Int) := Lim (fun k => spec_l20Log.j2 k a b c d e g i j l m n)
theorem spec_l20Log.j2L_is (a : Int) (b : List (S138)) (c : Int) (d : List Int) (e g i j : Int) (l : ByteArray) (m n : Int) : LimIs (fun k => spec_l20Log.j2 k a b c d e g i j l m n) (spec_l20Log.j2L a b c d e g i j l m n) := LimIs.of_mono (fun k r h => (spec_l20Log.mono_l k).2.2.1 a b c d e g i j l m n r h)
noncomputable def spec_l20Log.l1L (a : List (S138)) (b : List Int) (c : Int) : Option ((List (S138)) × Int) := Lim (fun k => spec_l20Log.l1 k a b c)
theorem spec_l20Log.l1L_is (a : List (S138)) (b : List Int) (c : Int) : LimIs (fun k => spec_l20Log.l1 k a b c) (spec_l20Log.l1L a b c) := LimIs.of_mono (fun k r h => (spec_l20Log.mono_l k).2.2.2 a b c r h)
noncomputable def spec_l20Log.fL (s0_0 : List Int) (s0_1 a1 : Int) : Option ((List (S138)) × Int) := Lim (fun k => spec_l20Log.f k s0_0 s0_1 a1)
theorem spec_l20Log.fL_is (s0_0 : List Int) (s0_1 a1 : Int) : LimIs (fun k => spec_l20Log.f k s0_0 s0_1 a1) (spec_l20Log.fL s0_0 s0_1 a1) := LimIs.of_mono (fun k r h => spec_l20Log.mono s0_0 s0_1 a1 k r h)
theorem spec_l20Log.l0L_eq (a : Int) (b : List (S138)) (c : Int) (d : List Int) (e : Int) : spec_l20Log.l0L a b c d e = if c > 0 then ((spec_l20Entry.fL d e 0).bind fun bt585 => (if bt585.2.2.1 = 5 then ((spec_l20Rd_pick.fL d bt585.2.2.2.2.2.2 3).bind fun bt593 => (spec_l20Log.j1L a b c (decide (bt593.1 > 0)) d bt593.2 bt585.1 bt585.2.1 bt585.2.2.1 bt585.2.2.2.1 bt585.2.2.2.2.1 bt585.2.2.2.2.2.1)) else (spec_l20Log.j1L a b c false d bt585.2.2.2.2.2.2 bt585.1 bt585.2.1 bt585.2.2.1 bt585.2.2.2.1 bt585.2.2.2.2.1 bt585.2.2.2.2.2.1))) else ((spec_l20Rd_odd.fL d e a).bind fun bt616 => (if bt616.1 = true then ((spec_l20Rd_pick.fL d bt616.2 2).bind fun bt618 => (if bt618.1 = 0 then ((spec_l20Entry.fL d bt618.2 1).bind fun bt620 => (if b.length < 2513169434916 then (some ((b ++ [(⟨bt620.1, bt620.2.1, (⟨bt620.2.2.1, bt620.2.2.2.1, bt620.2.2.2.2.1, bt620.2.2.2.2.2.1⟩ : S40)⟩ : S138)]), bt620.2.2.2.2.2.2)) else (none))) else (spec_l20Log.l1L b d bt618.2))) else (some (b, bt616.2)))) := by
  refine lU (spec_l20Log.l0L_is a b c d e) (LimIs.step1 (by simp only [spec_l20Log.l0]) ?_)
  simp only [spec_l20Log.l0]
  repeat' with_reducible first | exact lK _ | exact spec_l20Entry.fL_is .. | exact spec_l20Log.j1L_is .. | exact spec_l20Log.l1L_is .. | exact spec_l20Rd_odd.fL_is .. | exact spec_l20Rd_pick.fL_is .. | apply lI | apply lB | intro _
theorem spec_l20Log.j1L_eq (a : Int) (b : List (S138)) (c : Int) (d : Bool) (e : List Int) (g i j l : Int) (m : ByteArray) (n o : Int) : spec_l20Log.j1L a b c d e g i j l m n o = if d = true then ((spec_l20Cmd.fL e g 0).bind fun bt595 => (spec_l20Log.j2L a b c e bt595.2.2.2.2 i j bt595.1 bt595.2.1 bt595.2.2.1 bt595.2.2.2.1)) else (spec_l20Log.j2L a b c e g i j l m n o) := by
  refine lU (spec_l20Log.j1L_is a b c d e g i j l m n o) (LimIs.step1 (by simp only [spec_l20Log.j1]) ?_)
  simp only [spec_l20Log.j1]
  repeat' with_reducible first | exact lK _ | exact spec_l20Cmd.fL_is .. | exact spec_l20Log.j2L_is .. | apply lI | apply lB | intro _
theorem spec_l20Log.j2L_eq (a : Int) (b : List (S138)) (c : Int) (d : List Int) (e g i j : Int) (l : ByteArray) (m n : Int) : spec_l20Log.j2L a b c d e g i j l m n = (spec_l20Rd_pick.fL d e 8).bind fun bt600 => (if (b.length : Int) > 0 then ((spec_l20Rd_pick.fL d bt600.2 6).bind fun bt602 => (if bt602.1 = 0 then ((spec_l20Rd_pick.fL d bt602.2 (b.length : Int)).bind fun bt604 => (if 0 ≤ bt604.1 then (if bt604.1 < (b.length : Int) then (if b.length < 2513169434916 then (spec_l20Log.l0L a (b ++ [(⟨(rd_T138 b bt604.1).f0, (rd_T138 b bt604.1).f1, (⟨(rd_T138 b bt604.1).f2.f0, (rd_T138 b bt604.1).f2.f1, (rd_T138 b bt604.1).f2.f2, (rd_T138 b bt604.1).f2.f3⟩ : S40)⟩ : S138)]) (wrap64 (c - 1)) d bt604.2) else (none)) else (none)) else (none))) else (if b.length < 2513169434916 then (spec_l20Log.l0L a (b ++ [(⟨g, wrap64 (1 + bt600.1), (⟨j, l, m, n⟩ : S40)⟩ : S138)]) (wrap64 (c - 1)) d bt602.2) else (none)))) else (if b.length < 2513169434916 then (spec_l20Log.l0L a (b ++ [(⟨g, wrap64 (1 + bt600.1), (⟨j, l, m, n⟩ : S40)⟩ : S138)]) (wrap64 (c - 1)) d bt600.2) else (none))) := by
  refine lU (spec_l20Log.j2L_is a b c d e g i j l m n) (LimIs.step1 (by simp only [spec_l20Log.j2]) ?_)
  simp only [spec_l20Log.j2]
  repeat' with_reducible first | exact lK _ | exact spec_l20Log.l0L_is .. | exact spec_l20Rd_pick.fL_is .. | apply lI | apply lB | intro _
theorem spec_l20Log.l1L_eq (a : List (S138)) (b : List Int) (c : Int) : spec_l20Log.l1L a b c = if (a.length : Int) ≤ 24 then ((spec_l20Entry.fL b c 0).bind fun bt630 => (if a.length < 2513169434916 then (spec_l20Log.l1L (a ++ [(⟨bt630.1, bt630.2.1, (⟨bt630.2.2.1, bt630.2.2.2.1, bt630.2.2.2.2.1, bt630.2.2.2.2.2.1⟩ : S40)⟩ : S138)]) b bt630.2.2.2.2.2.2) else (none))) else (some (a, c)) := by
  refine lU (spec_l20Log.l1L_is a b c) (LimIs.step1 (by simp only [spec_l20Log.l1]) ?_)
  simp only [spec_l20Log.l1]
  repeat' with_reducible first | exact lK _ | exact spec_l20Entry.fL_is .. | exact spec_l20Log.l1L_is .. | apply lI | apply lB | intro _
theorem spec_l20Log.fL_eq (s0_0 : List Int) (s0_1 a1 : Int) : spec_l20Log.fL s0_0 s0_1 a1 = (spec_l20Rd_pick.fL s0_0 s0_1 9).bind fun bt583 => (spec_l20Log.l0L a1 (([] : List (S138))) bt583.1 s0_0 bt583.2) := by
  refine lU (spec_l20Log.fL_is s0_0 s0_1 a1) ?_
  unfold spec_l20Log.f
  repeat' with_reducible first | exact lK _ | exact spec_l20Log.l0L_is .. | exact spec_l20Rd_pick.fL_is .. | apply lI | apply lB | intro _
/-! ### spec_l20Feed -/
noncomputable def spec_l20Feed.fL (s0_0 : List Int) (s0_1 a1 : Int) : Option ((List (S29)) × (List (S75)) × Int) := Lim (fun k => spec_l20Feed.f k s0_0 s0_1 a1)
theorem spec_l20Feed.fL_is (s0_0 : List Int) (s0_1 a1 : Int) : LimIs (fun k => spec_l20Feed.f k s0_0 s0_1 a1) (spec_l20Feed.fL s0_0 s0_1 a1) := LimIs.of_mono (fun k r h => spec_l20Feed.mono s0_0 s0_1 a1 k r h)
theorem spec_l20Feed.fL_eq (s0_0 : List Int) (s0_1 a1 : Int) : spec_l20Feed.fL s0_0 s0_1 a1 = (spec_l20Pairs.fL s0_0 s0_1 0).bind fun bt640 => ((spec_l20Sessions.fL s0_0 bt640.2 0).bind fun bt644 => ((spec_l20Log.fL s0_0 bt644.2 0).bind fun bt649 => ((spec_ChangesOf.fL (⟨#[]⟩ : ByteArray) (⟨#[]⟩ : ByteArray) bt640.1 bt644.1 false (⟨#[]⟩ : ByteArray) bt649.1).bind fun t653 => ((spec_l20Rd_odd.fL s0_0 bt649.2 a1).bind fun bt656 => (if bt656.1 = true then ((spec_l20Rd_pick.fL s0_0 bt656.2 4).bind fun bt658 => (if bt658.1 = 0 then ((some (([(⟨0, (⟨#[]⟩ : ByteArray), 0, 0⟩ : S75), (⟨24, (⟨#[98]⟩ : ByteArray), 0, 1⟩ : S75), (⟨23, (⟨#[98]⟩ : ByteArray), (-2), 0⟩ : S75), (⟨23, (⟨#[98]⟩ : ByteArray), 0, 1000⟩ : S75), (⟨23, (⟨#[66]⟩ : ByteArray), 0, 1⟩ : S75)] : List (S75)) : List (S75))).bind fun y660 => ((spec_l20Rd_pick.fL s0_0 bt658.2 5).bind fun bt663 => (if 0 ≤ bt663.1 then (if bt663.1 < (y660.length : Int) then (if t653.length < 3518437208883 then (some (bt640.1, (t653 ++ [(⟨(rd_T75 y660 bt663.1).f0, (rd_T75 y660 bt663.1).f1, (rd_T75 y660 bt663.1).f2, (rd_T75 y660 bt663.1).f3⟩ : S75)]), bt663.2)) else (none)) else (none)) else (none)))) else (if bt658.1 = 1 then (if t653.length + t653.length < 3518437208883 then (some (bt640.1, (t653 ++ t653), bt658.2)) else (none)) else (if bt658.1 = 2 then ((spec_l20Pairs.fL s0_0 bt658.2 2).bind fun bt672 => (some (bt672.1, t653, bt672.2))) else (if t653.length < 3518437208883 then (some (bt640.1, (t653 ++ [(⟨23, (⟨#[98]⟩ : ByteArray), 5, 6⟩ : S75)]), bt658.2)) else (none)))))) else (some (bt640.1, t653, bt656.2))))))) := by
  refine lU (spec_l20Feed.fL_is s0_0 s0_1 a1) ?_
  unfold spec_l20Feed.f
  repeat' with_reducible first | exact lK _ | exact spec_ChangesOf.fL_is .. | exact spec_l20Log.fL_is .. | exact spec_l20Pairs.fL_is .. | exact spec_l20Rd_odd.fL_is .. | exact spec_l20Rd_pick.fL_is .. | exact spec_l20Sessions.fL_is .. | apply lI | apply lB | intro _
/-! ### spec_DrawUndoFeed -/
noncomputable def spec_DrawUndoFeed.fL (l0 : List Int) : Option ((List (S75)) × Int) := Lim (fun k => spec_DrawUndoFeed.f k l0)
theorem spec_DrawUndoFeed.fL_is (l0 : List Int) : LimIs (fun k => spec_DrawUndoFeed.f k l0) (spec_DrawUndoFeed.fL l0) := LimIs.of_mono (fun k r h => spec_DrawUndoFeed.mono l0 k r h)
theorem spec_DrawUndoFeed.fL_eq (l0 : List Int) : spec_DrawUndoFeed.fL l0 = (spec_l20Open.f l0).bind fun bt679 => ((spec_l20Feed.fL bt679.1 bt679.2 9).bind fun bt682 => ((spec_l20Rd_pick.fL bt679.1 bt682.2.2 26).bind fun bt689 => (if (bt682.2.1.length : Int) > 0 then ((spec_l20Rd_pick.fL bt679.1 bt689.2 2).bind fun bt691 => (if bt691.1 = 0 then (if 0 ≤ (wrap64 ((bt682.2.1.length : Int) - 1)) then (if (wrap64 ((bt682.2.1.length : Int) - 1)) < (bt682.2.1.length : Int) then ((spec_l20Rd_pick.fL bt679.1 bt691.2 3).bind fun bt694 => (some (bt682.2.1, wrap64 (((rd_T75 bt682.2.1 (wrap64 ((bt682.2.1.length : Int) - 1))).f0) + bt694.1)))) else (none)) else (none)) else (some (bt682.2.1, bt689.1)))) else (some (bt682.2.1, bt689.1))))) := by
  refine lU (spec_DrawUndoFeed.fL_is l0) ?_
  unfold spec_DrawUndoFeed.f
  repeat' with_reducible first | exact lK _ | exact spec_l20Feed.fL_is .. | exact spec_l20Rd_pick.fL_is .. | apply lI | apply lB | intro _
/-! ### impl_UndoFeed -/
noncomputable def impl_UndoFeed.j0L (a : List (S75)) (b c : Int) (d : Bool) : Option ((List (S75))) := Lim (fun k => impl_UndoFeed.j0 k a b c d)
theorem impl_UndoFeed.j0L_is (a : List (S75)) (b c : Int) (d : Bool) : LimIs (fun k => impl_UndoFeed.j0 k a b c d) (impl_UndoFeed.j0L a b c d) := LimIs.of_mono (fun k r h => (impl_UndoFeed.mono_l k).1 a b c d r h)
noncomputable def impl_UndoFeed.l0L (a : List (S75)) (b : Int) (c : List (S75)) (d : Int) : Option ((List (S75))) := Lim (fun k => impl_UndoFeed.l0 k a b c d)
theorem impl_UndoFeed.l0L_is (a : List (S75)) (b : Int) (c : List (S75)) (d : Int) : LimIs (fun k => impl_UndoFeed.l0 k a b c d) (impl_UndoFeed.l0L a b c d) := LimIs.of_mono (fun k r h => (impl_UndoFeed.mono_l k).2 a b c d r h)
noncomputable def impl_UndoFeed.fL (l0 : List (S75)) (a1 : Int) : Option ((List (S75))) := Lim (fun k => impl_UndoFeed.f k l0 a1)
theorem impl_UndoFeed.fL_is (l0 : List (S75)) (a1 : Int) : LimIs (fun k => impl_UndoFeed.f k l0 a1) (impl_UndoFeed.fL l0 a1) := LimIs.of_mono (fun k r h => impl_UndoFeed.mono l0 a1 k r h)
theorem impl_UndoFeed.j0L_eq (a : List (S75)) (b c : Int) (d : Bool) : impl_UndoFeed.j0L a b c d = if d = true then (some ([] : List (S75))) else (impl_UndoFeed.l0L a b ([] : List (S75)) c) := by
  refine lU (impl_UndoFeed.j0L_is a b c d) (LimIs.step1 (by simp only [impl_UndoFeed.j0]) ?_)
  simp only [impl_UndoFeed.j0]
  repeat' with_reducible first | exact lK _ | exact impl_UndoFeed.l0L_is .. | apply lI | apply lB | intro _
theorem impl_UndoFeed.l0L_eq (a : List (S75)) (b : Int) (c : List (S75)) (d : Int) : impl_UndoFeed.l0L a b c d = if d ≥ 0 then (if 0 ≤ d then (if d < (a.length : Int) then (if c.length < 3518437208883 then (impl_UndoFeed.l0L a b (c ++ [(⟨wrap64 ((wrap64 (b - 1)) - ((rd_T75 a d).f0)), (rd_T75 a d).f1, (rd_T75 a d).f3, (rd_T75 a d).f2⟩ : S75)]) (wrap64 (d - 1))) else (none)) else (none)) else (none)) else (some c) := by
  refine lU (impl_UndoFeed.l0L_is a b c d) (LimIs.step1 (by simp only [impl_UndoFeed.l0]) ?_)
  simp only [impl_UndoFeed.l0]
  repeat' with_reducible first | exact lK _ | exact impl_UndoFeed.l0L_is .. | apply lI | apply lB | intro _
theorem impl_UndoFeed.fL_eq (l0 : List (S75)) (a1 : Int) : impl_UndoFeed.fL l0 a1 = (impl_FeedValid.fL l0).bind fun t696 => (if t696 = true then (if (wrap64 ((l0.length : Int) - 1)) < 0 then (impl_UndoFeed.j0L l0 a1 (wrap64 ((l0.length : Int) - 1)) true) else (if 0 ≤ (wrap64 ((l0.length : Int) - 1)) then (if (wrap64 ((l0.length : Int) - 1)) < (l0.length : Int) then (if a1 ≤ ((rd_T75 l0 (wrap64 ((l0.length : Int) - 1))).f0) then (impl_UndoFeed.j0L l0 a1 (wrap64 ((l0.length : Int) - 1)) true) else (impl_UndoFeed.j0L l0 a1 (wrap64 ((l0.length : Int) - 1)) (decide (a1 > 24)))) else (none)) else (none))) else (impl_UndoFeed.j0L l0 a1 (wrap64 ((l0.length : Int) - 1)) true)) := by
  refine lU (impl_UndoFeed.fL_is l0 a1) ?_
  unfold impl_UndoFeed.f
  repeat' with_reducible first | exact lK _ | exact impl_FeedValid.fL_is .. | exact impl_UndoFeed.j0L_is .. | apply lI | apply lB | intro _
/-! ### spec_FeedValid -/
noncomputable def spec_FeedValid.l0L (a : List (S75)) (b : Int) : Option (Bool) := Lim (fun k => spec_FeedValid.l0 k a b)
theorem spec_FeedValid.l0L_is (a : List (S75)) (b : Int) : LimIs (fun k => spec_FeedValid.l0 k a b) (spec_FeedValid.l0L a b) := LimIs.of_mono (fun k r h => (spec_FeedValid.mono_l k) a b r h)
noncomputable def spec_FeedValid.fL (l0 : List (S75)) : Option (Bool) := Lim (fun k => spec_FeedValid.f k l0)
theorem spec_FeedValid.fL_is (l0 : List (S75)) : LimIs (fun k => spec_FeedValid.f k l0) (spec_FeedValid.fL l0) := LimIs.of_mono (fun k r h => spec_FeedValid.mono l0 k r h)
theorem spec_FeedValid.l0L_eq (a : List (S75)) (b : Int) : spec_FeedValid.l0L a b = if b < (a.length : Int) then (if 0 ≤ b then (if b ≥ 24 then (some false) else ((spec_l1In.f ((rd_T75 a b).f0) 0 23).bind fun t705 => (if t705 = true then ((spec_KeyValid.fL ((rd_T75 a b).f1)).bind fun t706 => (if t706 = true then ((spec_l1In.f ((rd_T75 a b).f2) (-1) 999).bind fun t707 => (if t707 = true then ((spec_l1In.f ((rd_T75 a b).f3) (-1) 999).bind fun t708 => (if t708 = true then (if ((rd_T75 a b).f2) = ((rd_T75 a b).f3) then (some false) else (if b > 0 then (if 0 ≤ (wrap64 (b - 1)) then (if (wrap64 (b - 1)) < (a.length : Int) then (if ((rd_T75 a b).f0) ≤ ((rd_T75 a (wrap64 (b - 1))).f0) then (some false) else (spec_FeedValid.l0L a (wrap64 (b + 1)))) else (none)) else (none)) else (spec_FeedValid.l0L a (wrap64 (b + 1))))) else (some false))) else (some false))) else (some false))) else (some false)))) else (none)) else (some true) := by
  refine lU (spec_FeedValid.l0L_is a b) (LimIs.step1 (by simp only [spec_FeedValid.l0]) ?_)
  simp only [spec_FeedValid.l0]
  repeat' with_reducible first | exact lK _ | exact spec_FeedValid.l0L_is .. | exact spec_KeyValid.fL_is .. | apply lI | apply lB | intro _
theorem spec_FeedValid.fL_eq (l0 : List (S75)) : spec_FeedValid.fL l0 = spec_FeedValid.l0L l0 0 := by
  refine lU (spec_FeedValid.fL_is l0) ?_
  unfold spec_FeedValid.f
  repeat' with_reducible first | exact lK _ | exact spec_FeedValid.l0L_is .. | apply lI | apply lB | intro _
/-! ### spec_UndoFeed -/
noncomputable def spec_UndoFeed.j0L (a : List (S75)) (b : Int) (c : List (S75)) (d : Bool) : Option ((List (S75))) := Lim (fun k => spec_UndoFeed.j0 k a b c d)
theorem spec_UndoFeed.j0L_is (a : List (S75)) (b : Int) (c : List (S75)) (d : Bool) : LimIs (fun k => spec_UndoFeed.j0 k a b c d) (spec_UndoFeed.j0L a b c d) := LimIs.of_mono (fun k r h => (spec_UndoFeed.mono_l k).1 a b c d r h)
noncomputable def spec_UndoFeed.l0L (a : List (S75)) (b : Int) (c : List (S75)) (d : Int) : Option ((List (S75))) := Lim (fun k => spec_UndoFeed.l0 k a b c d)
theorem spec_UndoFeed.l0L_is (a : List (S75)) (b : Int) (c : List (S75)) (d : Int) : LimIs (fun k => spec_UndoFeed.l0 k a b c d) (spec_UndoFeed.l0L a b c d) := LimIs.of_mono (fun k r h => (spec_UndoFeed.mono_l k).2 a b c d r h)
noncomputable def spec_UndoFeed.fL (l0 : List (S75)) (a1 : Int) : Option ((List (S75))) := Lim (fun k => spec_UndoFeed.f k l0 a1)
theorem spec_UndoFeed.fL_is (l0 : List (S75)) (a1 : Int) : LimIs (fun k => spec_UndoFeed.f k l0 a1) (spec_UndoFeed.fL l0 a1) := LimIs.of_mono (fun k r h => spec_UndoFeed.mono l0 a1 k r h)
theorem spec_UndoFeed.j0L_eq (a : List (S75)) (b : Int) (c : List (S75)) (d : Bool) : spec_UndoFeed.j0L a b c d = if d = true then (some c) else (spec_UndoFeed.l0L a b c (wrap64 ((a.length : Int) - 1))) := by
  refine lU (spec_UndoFeed.j0L_is a b c d) (LimIs.step1 (by simp only [spec_UndoFeed.j0]) ?_)
  simp only [spec_UndoFeed.j0]
  repeat' with_reducible first | exact lK _ | exact spec_UndoFeed.l0L_is .. | apply lI | apply lB | intro _
theorem spec_UndoFeed.l0L_eq (a : List (S75)) (b : Int) (c : List (S75)) (d : Int) : spec_UndoFeed.l0L a b c d = if d ≥ 0 then (if 0 ≤ d then (if d < (a.length : Int) then (if c.length < 3518437208883 then (spec_UndoFeed.l0L a b (c ++ [(⟨wrap64 ((wrap64 (b - 1)) - ((rd_T75 a d).f0)), (rd_T75 a d).f1, (rd_T75 a d).f3, (rd_T75 a d).f2⟩ : S75)]) (wrap64 (d - 1))) else (none)) else (none)) else (none)) else (some c) := by
  refine lU (spec_UndoFeed.l0L_is a b c d) (LimIs.step1 (by simp only [spec_UndoFeed.l0]) ?_)
  simp only [spec_UndoFeed.l0]
  repeat' with_reducible first | exact lK _ | exact spec_UndoFeed.l0L_is .. | apply lI | apply lB | intro _
theorem spec_UndoFeed.fL_eq (l0 : List (S75)) (a1 : Int) : spec_UndoFeed.fL l0 a1 = (some (([] : List (S75)) : List (S75))).bind fun y710 => ((spec_FeedValid.fL l0).bind fun t713 => (if t713 = true then ((spec_l1In.f a1 0 24).bind fun t714 => (if t714 = true then (if (l0.length : Int) > 0 then (if 0 ≤ (wrap64 ((l0.length : Int) - 1)) then (if (wrap64 ((l0.length : Int) - 1)) < (l0.length : Int) then (spec_UndoFeed.j0L l0 a1 y710 (decide (((rd_T75 l0 (wrap64 ((l0.length : Int) - 1))).f0) ≥ a1))) else (none)) else (none)) else (spec_UndoFeed.j0L l0 a1 y710 false)) else (spec_UndoFeed.j0L l0 a1 y710 true))) else (spec_UndoFeed.j0L l0 a1 y710 true))) := by
  refine lU (spec_UndoFeed.fL_is l0 a1) ?_
  unfold spec_UndoFeed.f
  repeat' with_reducible first | exact lK _ | exact spec_FeedValid.fL_is .. | exact spec_UndoFeed.j0L_is .. | apply lI | apply lB | intro _
/-! ### laws_FnUndoFeed -/
noncomputable def laws_FnUndoFeed.fL (l0 : List Int) : Option (Bool) := Lim (fun k => laws_FnUndoFeed.f k l0)
theorem laws_FnUndoFeed.fL_is (l0 : List Int) : LimIs (fun k => laws_FnUndoFeed.f k l0) (laws_FnUndoFeed.fL l0) := LimIs.of_mono (fun k r h => laws_FnUndoFeed.mono l0 k r h)
theorem laws_FnUndoFeed.fL_eq (l0 : List Int) : laws_FnUndoFeed.fL l0 = if (l0.length : Int) > 1048576 then (some true) else ((spec_DrawUndoFeed.fL l0).bind fun bt723 => ((impl_UndoFeed.fL bt723.1 bt723.2).bind fun t727 => ((spec_UndoFeed.fL bt723.1 bt723.2).bind fun t730 => ((laws_sameFeed.fL t727 t730).bind fun t733 => (if t733 = true then (if (t727.length : Int) = 0 then ((laws_alive.fL).bind fun t734 => (some t734)) else ((impl_FeedValid.fL t727).bind fun t735 => (if t735 = true then (if (t727.length : Int) = (bt723.1.length : Int) then ((impl_UndoFeed.fL t727 bt723.2).bind fun t736 => ((laws_sameFeed.fL t736 bt723.1).bind fun t739 => (some t739))) else (some false)) else (some false)))) else (some false)))))) := by
  refine lU (laws_FnUndoFeed.fL_is l0) ?_
  unfold laws_FnUndoFeed.f
  repeat' with_reducible first | exact lK _ | exact impl_FeedValid.fL_is .. | exact impl_UndoFeed.fL_is .. | exact laws_alive.fL_is .. | exact laws_sameFeed.fL_is .. | exact spec_DrawUndoFeed.fL_is .. | exact spec_UndoFeed.fL_is .. | apply lI | apply lB | intro _
end Go.Proofs.Ytfeeifefmenlmaa.PFnUndoFeed
