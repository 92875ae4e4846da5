/- The limits of the printed functions, and their equations. Written by lim.py out of the print. No condition. -/
import Derived.Test.YtfeeifefmenlmaaPFnPairsDigestx7
import Derived.Test.YtfeeifefmenlmaaLim
namespace Go.Proofs.Ytfeeifefmenlmaa.PFnPairsDigest
open Go.RowKit Go.Proofs.YtfeeifefmenlmaaW.PrintWords Go.Proofs.YtfeeifefmenlmaaW.PrintLast Go.Proofs.YtfeeifefmenlmaaW.PrintMore Go.Proofs.Ytfeeifefmenlmaa.Lim
set_option linter.unusedVariables false

/-! ### spec_l20Rd_pick -/
noncomputable def spec_l20Rd_pick.j0L (x1 : Int) (x24 : Bool) (x1000 : List Int) (x1001 : Int) : Option (Int × Int) := Lim (fun k => spec_l20Rd_pick.j0 k x1 x24 x1000 x1001)
theorem spec_l20Rd_pick.j0L_is (x1 : Int) (x24 : Bool) (x1000 : List Int) (x1001 : Int) : LimIs (fun k => spec_l20Rd_pick.j0 k x1 x24 x1000 x1001) (spec_l20Rd_pick.j0L x1 x24 x1000 x1001) := LimIs.of_mono (fun k r h => (spec_l20Rd_pick.mono_l k) x1 x24 x1000 x1001 r h)
noncomputable def spec_l20Rd_pick.fL (s0_0 : List Int) (s0_1 : Int) (a1 : Int) : Option (Int × Int) := Lim (fun k => spec_l20Rd_pick.f k s0_0 s0_1 a1)
theorem spec_l20Rd_pick.fL_is (s0_0 : List Int) (s0_1 : Int) (a1 : Int) : LimIs (fun k => spec_l20Rd_pick.f k s0_0 s0_1 a1) (spec_l20Rd_pick.fL s0_0 s0_1 a1) := LimIs.of_mono (fun k r h => spec_l20Rd_pick.mono s0_0 s0_1 a1 k r h)
theorem spec_l20Rd_pick.j0L_eq (x1 : Int) (x24 : Bool) (x1000 : List Int) (x1001 : Int) : spec_l20Rd_pick.j0L x1 x24 x1000 x1001 = if x24 = true then (some (0, x1001)) else (if (wrap64 (x1001 - 1)) < (x1000.length : Int) then (if 0 ≤ (wrap64 (x1001 - 1)) then (if x1 = 0 then (none) else (some (Int.tmod (wrap64 (rd x1000 (wrap64 (x1001 - 1)))) x1, x1001))) else (none)) else (if (x1000.length : Int) = 0 then (none) else (if 0 ≤ (Int.tmod (wrap64 (x1001 - 1)) (x1000.length : Int)) then (if (Int.tmod (wrap64 (x1001 - 1)) (x1000.length : Int)) < (x1000.length : Int) then (if 0 ≤ (Int.tmod (wrap64 ((wrap64 ((wrap64 (x1001 - 1)) * 7)) + 3)) (x1000.length : Int)) then (if (Int.tmod (wrap64 ((wrap64 ((wrap64 (x1001 - 1)) * 7)) + 3)) (x1000.length : Int)) < (x1000.length : Int) then (if x1 = 0 then (none) else (some (Int.tmod (Go.bits .xor .i64 (wrap64 ((wrap64 ((wrap64 ((wrap64 ((wrap64 (rd x1000 (Int.tmod (wrap64 (x1001 - 1)) (x1000.length : Int)))) * 131)) + (wrap64 ((wrap64 (rd x1000 (Int.tmod (wrap64 ((wrap64 ((wrap64 (x1001 - 1)) * 7)) + 3)) (x1000.length : Int)))) * 1117)))) + (wrap64 ((wrap64 (x1001 - 1)) * 29)))) + (wrap64 ((wrap64 (Int.tdiv (wrap64 (x1001 - 1)) (x1000.length : Int))) * 53)))) (wrap64 (Int.tdiv (wrap64 ((wrap64 ((wrap64 ((wrap64 ((wrap64 (rd x1000 (Int.tmod (wrap64 (x1001 - 1)) (x1000.length : Int)))) * 131)) + (wrap64 ((wrap64 (rd x1000 (Int.tmod (wrap64 ((wrap64 ((wrap64 (x1001 - 1)) * 7)) + 3)) (x1000.length : Int)))) * 1117)))) + (wrap64 ((wrap64 (x1001 - 1)) * 29)))) + (wrap64 ((wrap64 (Int.tdiv (wrap64 (x1001 - 1)) (x1000.length : Int))) * 53)))) 64))) x1, x1001))) else (none)) else (none)) else (none)) else (none)))) := by
  refine LimIs.unique (spec_l20Rd_pick.j0L_is x1 x24 x1000 x1001) (LimIs.step (f := fun k => if x24 = true then (some (0, x1001)) else (if (wrap64 (x1001 - 1)) < (x1000.length : Int) then (if 0 ≤ (wrap64 (x1001 - 1)) then (if x1 = 0 then (none) else (some (Int.tmod (wrap64 (rd x1000 (wrap64 (x1001 - 1)))) x1, x1001))) else (none)) else (if (x1000.length : Int) = 0 then (none) else (if 0 ≤ (Int.tmod (wrap64 (x1001 - 1)) (x1000.length : Int)) then (if (Int.tmod (wrap64 (x1001 - 1)) (x1000.length : Int)) < (x1000.length : Int) then (if 0 ≤ (Int.tmod (wrap64 ((wrap64 ((wrap64 (x1001 - 1)) * 7)) + 3)) (x1000.length : Int)) then (if (Int.tmod (wrap64 ((wrap64 ((wrap64 (x1001 - 1)) * 7)) + 3)) (x1000.length : Int)) < (x1000.length : Int) then (if x1 = 0 then (none) else (some (Int.tmod (Go.bits .xor .i64 (wrap64 ((wrap64 ((wrap64 ((wrap64 ((wrap64 (rd x1000 (Int.tmod (wrap64 (x1001 - 1)) (x1000.length : Int)))) * 131)) + (wrap64 ((wrap64 (rd x1000 (Int.tmod (wrap64 ((wrap64 ((wrap64 (x1001 - 1)) * 7)) + 3)) (x1000.length : Int)))) * 1117)))) + (wrap64 ((wrap64 (x1001 - 1)) * 29)))) + (wrap64 ((wrap64 (Int.tdiv (wrap64 (x1001 - 1)) (x1000.length : Int))) * 53)))) (wrap64 (Int.tdiv (wrap64 ((wrap64 ((wrap64 ((wrap64 ((wrap64 (rd x1000 (Int.tmod (wrap64 (x1001 - 1)) (x1000.length : Int)))) * 131)) + (wrap64 ((wrap64 (rd x1000 (Int.tmod (wrap64 ((wrap64 ((wrap64 (x1001 - 1)) * 7)) + 3)) (x1000.length : Int)))) * 1117)))) + (wrap64 ((wrap64 (x1001 - 1)) * 29)))) + (wrap64 ((wrap64 (Int.tdiv (wrap64 (x1001 - 1)) (x1000.length : Int))) * 53)))) 64))) x1, x1001))) else (none)) else (none)) else (none)) else (none))))) (by simp only [spec_l20Rd_pick.j0]) (fun k => by simp only [spec_l20Rd_pick.j0]) ?_)
  repeat' first
    | (with_reducible exact LimIs.const _)
    | (with_reducible refine LimIs.ite ?_ ?_)
    | (with_reducible refine LimIs.bind ?_ (fun _ => ?_))
theorem spec_l20Rd_pick.fL_eq (s0_0 : List Int) (s0_1 : Int) (a1 : Int) : spec_l20Rd_pick.fL s0_0 s0_1 a1 = if a1 < 1 then (spec_l20Rd_pick.j0L a1 true s0_0 (wrap64 (s0_1 + 1))) else (spec_l20Rd_pick.j0L a1 ((s0_0.length : Int) == 0) s0_0 (wrap64 (s0_1 + 1))) := by
  refine LimIs.unique (spec_l20Rd_pick.fL_is s0_0 s0_1 a1) ?_
  unfold spec_l20Rd_pick.f
  repeat' first
    | (with_reducible exact LimIs.const _)
    | (with_reducible exact spec_l20Rd_pick.j0L_is _ _ _ _)
    | (with_reducible refine LimIs.ite ?_ ?_)
    | (with_reducible refine LimIs.bind ?_ (fun _ => ?_))
/-! ### spec_KeyValid -/
noncomputable def spec_KeyValid.l0L (x0 : ByteArray) (x3 : Int) : Option (Bool) := Lim (fun k => spec_KeyValid.l0 k x0 x3)
theorem spec_KeyValid.l0L_is (x0 : ByteArray) (x3 : Int) : LimIs (fun k => spec_KeyValid.l0 k x0 x3) (spec_KeyValid.l0L x0 x3) := LimIs.of_mono (fun k r h => (spec_KeyValid.mono_l k) x0 x3 r h)
noncomputable def spec_KeyValid.fL (a0 : ByteArray) : Option (Bool) := Lim (fun k => spec_KeyValid.f k a0)
theorem spec_KeyValid.fL_is (a0 : ByteArray) : LimIs (fun k => spec_KeyValid.f k a0) (spec_KeyValid.fL a0) := LimIs.of_mono (fun k r h => spec_KeyValid.mono a0 k r h)
theorem spec_KeyValid.l0L_eq (x0 : ByteArray) (x3 : Int) : spec_KeyValid.l0L x0 x3 = if x3 < (x0.size : Int) then (if 0 ≤ x3 then (if (bt x0 x3) < 97 then (some false) else (if (bt x0 x3) > 122 then (some false) else (spec_KeyValid.l0L x0 (wrap64 (x3 + 1))))) else (none)) else (some true) := by
  refine LimIs.unique (spec_KeyValid.l0L_is x0 x3) (LimIs.step (f := fun k => if x3 < (x0.size : Int) then (if 0 ≤ x3 then (if (bt x0 x3) < 97 then (some false) else (if (bt x0 x3) > 122 then (some false) else (spec_KeyValid.l0 k x0 (wrap64 (x3 + 1))))) else (none)) else (some true)) (by simp only [spec_KeyValid.l0]) (fun k => by simp only [spec_KeyValid.l0]) ?_)
  repeat' first
    | (with_reducible exact LimIs.const _)
    | (with_reducible exact spec_KeyValid.l0L_is _ _)
    | (with_reducible refine LimIs.ite ?_ ?_)
    | (with_reducible refine LimIs.bind ?_ (fun _ => ?_))
theorem spec_KeyValid.fL_eq (a0 : ByteArray) : spec_KeyValid.fL a0 = (spec_l1In.f (a0.size : Int) 1 4).bind fun t104 => (if t104 = true then (spec_KeyValid.l0L a0 0) else (some false)) := by
  refine LimIs.unique (spec_KeyValid.fL_is a0) ?_
  unfold spec_KeyValid.f
  repeat' first
    | (with_reducible exact LimIs.const _)
    | (with_reducible exact spec_KeyValid.l0L_is _ _)
    | (with_reducible refine LimIs.ite ?_ ?_)
    | (with_reducible refine LimIs.bind ?_ (fun _ => ?_))
/-! ### spec_PairsValid -/
noncomputable def spec_PairsValid.l0L (x0 : List (S29)) (x3 : Int) : Option (Bool) := Lim (fun k => spec_PairsValid.l0 k x0 x3)
theorem spec_PairsValid.l0L_is (x0 : List (S29)) (x3 : Int) : LimIs (fun k => spec_PairsValid.l0 k x0 x3) (spec_PairsValid.l0L x0 x3) := LimIs.of_mono (fun k r h => (spec_PairsValid.mono_l k) x0 x3 r h)
noncomputable def spec_PairsValid.fL (l0 : List (S29)) : Option (Bool) := Lim (fun k => spec_PairsValid.f k l0)
theorem spec_PairsValid.fL_is (l0 : List (S29)) : LimIs (fun k => spec_PairsValid.f k l0) (spec_PairsValid.fL l0) := LimIs.of_mono (fun k r h => spec_PairsValid.mono l0 k r h)
theorem spec_PairsValid.l0L_eq (x0 : List (S29)) (x3 : Int) : spec_PairsValid.l0L x0 x3 = if x3 < (x0.length : Int) then (if 0 ≤ x3 then ((spec_KeyValid.fL ((rd_T29 x0 x3).f0)).bind fun t106 => (if t106 = true then ((spec_l1In.f ((rd_T29 x0 x3).f1) 0 999).bind fun t108 => (if t108 = true then (if x3 > 0 then (if 0 ≤ (wrap64 (x3 - 1)) then (if (wrap64 (x3 - 1)) < (x0.length : Int) then (if ((Op.bytesLess (((rd_T29 x0 (wrap64 (x3 - 1))).f0).toList) (((rd_T29 x0 x3).f0).toList)) = true) then (spec_PairsValid.l0L x0 (wrap64 (x3 + 1))) else (some false)) else (none)) else (none)) else (spec_PairsValid.l0L x0 (wrap64 (x3 + 1)))) else (some false))) else (some false))) else (none)) else (some true) := by
  refine LimIs.unique (spec_PairsValid.l0L_is x0 x3) (LimIs.step (f := fun k => if x3 < (x0.length : Int) then (if 0 ≤ x3 then ((spec_KeyValid.f k ((rd_T29 x0 x3).f0)).bind fun t106 => (if t106 = true then ((spec_l1In.f ((rd_T29 x0 x3).f1) 0 999).bind fun t108 => (if t108 = true then (if x3 > 0 then (if 0 ≤ (wrap64 (x3 - 1)) then (if (wrap64 (x3 - 1)) < (x0.length : Int) then (if ((Op.bytesLess (((rd_T29 x0 (wrap64 (x3 - 1))).f0).toList) (((rd_T29 x0 x3).f0).toList)) = true) then (spec_PairsValid.l0 k x0 (wrap64 (x3 + 1))) else (some false)) else (none)) else (none)) else (spec_PairsValid.l0 k x0 (wrap64 (x3 + 1)))) else (some false))) else (some false))) else (none)) else (some true)) (by simp only [spec_PairsValid.l0]) (fun k => by simp only [spec_PairsValid.l0]) ?_)
  repeat' first
    | (with_reducible exact LimIs.const _)
    | (with_reducible exact spec_KeyValid.fL_is _)
    | (with_reducible exact spec_PairsValid.l0L_is _ _)
    | (with_reducible refine LimIs.ite ?_ ?_)
    | (with_reducible refine LimIs.bind ?_ (fun _ => ?_))
theorem spec_PairsValid.fL_eq (l0 : List (S29)) : spec_PairsValid.fL l0 = if (l0.length : Int) > 48 then (some false) else (spec_PairsValid.l0L l0 0) := by
  refine LimIs.unique (spec_PairsValid.fL_is l0) ?_
  unfold spec_PairsValid.f
  repeat' first
    | (with_reducible exact LimIs.const _)
    | (with_reducible exact spec_PairsValid.l0L_is _ _)
    | (with_reducible refine LimIs.ite ?_ ?_)
    | (with_reducible refine LimIs.bind ?_ (fun _ => ?_))
/-! ### spec_l4Place -/
noncomputable def spec_l4Place.l0L (x0 : List (S29)) (x1 : ByteArray) (x5 : Int) : Option (Int) := Lim (fun k => spec_l4Place.l0 k x0 x1 x5)
theorem spec_l4Place.l0L_is (x0 : List (S29)) (x1 : ByteArray) (x5 : Int) : LimIs (fun k => spec_l4Place.l0 k x0 x1 x5) (spec_l4Place.l0L x0 x1 x5) := LimIs.of_mono (fun k r h => (spec_l4Place.mono_l k) x0 x1 x5 r h)
noncomputable def spec_l4Place.fL (l0 : List (S29)) (a1 : ByteArray) : Option (Int) := Lim (fun k => spec_l4Place.f k l0 a1)
theorem spec_l4Place.fL_is (l0 : List (S29)) (a1 : ByteArray) : LimIs (fun k => spec_l4Place.f k l0 a1) (spec_l4Place.fL l0 a1) := LimIs.of_mono (fun k r h => spec_l4Place.mono l0 a1 k r h)
theorem spec_l4Place.l0L_eq (x0 : List (S29)) (x1 : ByteArray) (x5 : Int) : spec_l4Place.l0L x0 x1 x5 = if x5 < (x0.length : Int) then (if 0 ≤ x5 then (if (Op.bytesLess (((rd_T29 x0 x5).f0).toList) x1.toList) = true then (spec_l4Place.l0L x0 x1 (wrap64 (x5 + 1))) else (some x5)) else (none)) else (some x5) := by
  refine LimIs.unique (spec_l4Place.l0L_is x0 x1 x5) (LimIs.step (f := fun k => if x5 < (x0.length : Int) then (if 0 ≤ x5 then (if (Op.bytesLess (((rd_T29 x0 x5).f0).toList) x1.toList) = true then (spec_l4Place.l0 k x0 x1 (wrap64 (x5 + 1))) else (some x5)) else (none)) else (some x5)) (by simp only [spec_l4Place.l0]) (fun k => by simp only [spec_l4Place.l0]) ?_)
  repeat' first
    | (with_reducible exact LimIs.const _)
    | (with_reducible exact spec_l4Place.l0L_is _ _ _)
    | (with_reducible refine LimIs.ite ?_ ?_)
    | (with_reducible refine LimIs.bind ?_ (fun _ => ?_))
theorem spec_l4Place.fL_eq (l0 : List (S29)) (a1 : ByteArray) : spec_l4Place.fL l0 a1 = spec_l4Place.l0L l0 a1 0 := by
  refine LimIs.unique (spec_l4Place.fL_is l0 a1) ?_
  unfold spec_l4Place.f
  repeat' first
    | (with_reducible exact LimIs.const _)
    | (with_reducible exact spec_l4Place.l0L_is _ _ _)
    | (with_reducible refine LimIs.ite ?_ ?_)
    | (with_reducible refine LimIs.bind ?_ (fun _ => ?_))
/-! ### spec_PairPut -/
noncomputable def spec_PairPut.j0L (x0 : List (S29)) (x1 : ByteArray) (x2 : Int) (x8 : List (S29)) (x23 : Bool) : Option ((List (S29)) × Bool) := Lim (fun k => spec_PairPut.j0 k x0 x1 x2 x8 x23)
theorem spec_PairPut.j0L_is (x0 : List (S29)) (x1 : ByteArray) (x2 : Int) (x8 : List (S29)) (x23 : Bool) : LimIs (fun k => spec_PairPut.j0 k x0 x1 x2 x8 x23) (spec_PairPut.j0L x0 x1 x2 x8 x23) := LimIs.of_mono (fun k r h => (spec_PairPut.mono_l k).1 x0 x1 x2 x8 x23 r h)
noncomputable def spec_PairPut.j1L (x0 : List (S29)) (x1 : ByteArray) (x2 : Int) (x8 : List (S29)) (x9 : Int) (x40 : Bool) : Option ((List (S29)) × Bool) := Lim (fun k => spec_PairPut.j1 k x0 x1 x2 x8 x9 x40)
theorem spec_PairPut.j1L_is (x0 : List (S29)) (x1 : ByteArray) (x2 : Int) (x8 : List (S29)) (x9 : Int) (x40 : Bool) : LimIs (fun k => spec_PairPut.j1 k x0 x1 x2 x8 x9 x40) (spec_PairPut.j1L x0 x1 x2 x8 x9 x40) := LimIs.of_mono (fun k r h => (spec_PairPut.mono_l k).2 x0 x1 x2 x8 x9 x40 r h)
noncomputable def spec_PairPut.fL (l0 : List (S29)) (a1 : ByteArray) (a2 : Int) : Option ((List (S29)) × Bool) := Lim (fun k => spec_PairPut.f k l0 a1 a2)
theorem spec_PairPut.fL_is (l0 : List (S29)) (a1 : ByteArray) (a2 : Int) : LimIs (fun k => spec_PairPut.f k l0 a1 a2) (spec_PairPut.fL l0 a1 a2) := LimIs.of_mono (fun k r h => spec_PairPut.mono l0 a1 a2 k r h)
theorem spec_PairPut.j0L_eq (x0 : List (S29)) (x1 : ByteArray) (x2 : Int) (x8 : List (S29)) (x23 : Bool) : spec_PairPut.j0L x0 x1 x2 x8 x23 = if x23 = true then (some (x8, false)) else ((spec_l4Place.fL x0 x1).bind fun t118 => (if t118 < (x0.length : Int) then (if 0 ≤ t118 then (spec_PairPut.j1L x0 x1 x2 x8 t118 (((rd_T29 x0 t118).f0).toList == x1.toList)) else (none)) else (spec_PairPut.j1L x0 x1 x2 x8 t118 false))) := by
  refine LimIs.unique (spec_PairPut.j0L_is x0 x1 x2 x8 x23) (LimIs.step (f := fun k => if x23 = true then (some (x8, false)) else ((spec_l4Place.f k x0 x1).bind fun t118 => (if t118 < (x0.length : Int) then (if 0 ≤ t118 then (spec_PairPut.j1 k x0 x1 x2 x8 t118 (((rd_T29 x0 t118).f0).toList == x1.toList)) else (none)) else (spec_PairPut.j1 k x0 x1 x2 x8 t118 false)))) (by simp only [spec_PairPut.j0]) (fun k => by simp only [spec_PairPut.j0]) ?_)
  repeat' first
    | (with_reducible exact LimIs.const _)
    | (with_reducible exact spec_PairPut.j1L_is _ _ _ _ _ _)
    | (with_reducible exact spec_l4Place.fL_is _ _)
    | (with_reducible refine LimIs.ite ?_ ?_)
    | (with_reducible refine LimIs.bind ?_ (fun _ => ?_))
theorem spec_PairPut.j1L_eq (x0 : List (S29)) (x1 : ByteArray) (x2 : Int) (x8 : List (S29)) (x9 : Int) (x40 : Bool) : spec_PairPut.j1L x0 x1 x2 x8 x9 x40 = if x40 = true then (if x8.length + x0.length < 5864062014805 then ((some (x8 ++ x0 : List (S29))).bind fun y120 => (if 0 ≤ x9 then (if x9 < (y120.length : Int) then (some ((y120.set (x9 : Int).toNat (⟨(rd_T29 y120 x9).f0, x2⟩ : S29)), true)) else (none)) else (none))) else (none)) else (if (x0.length : Int) ≥ 48 then (if x8.length + x0.length < 5864062014805 then (some ((x8 ++ x0), false)) else (none)) else (if 0 ≤ x9 then (if x9 ≤ (x0.length : Int) then ((some (x0.take (x9 : Int).toNat : List (S29))).bind fun y127 => (if x8.length + y127.length < 5864062014805 then ((some (x8 ++ y127 : List (S29))).bind fun y131 => (if y131.length < 5864062014805 then ((some (y131 ++ [(⟨x1, x2⟩ : S29)] : List (S29))).bind fun y134 => ((some (x0.drop (x9 : Int).toNat : List (S29))).bind fun y137 => (if y134.length + y137.length < 5864062014805 then (some ((y134 ++ y137), true)) else (none)))) else (none))) else (none))) else (none)) else (none))) := by
  refine LimIs.unique (spec_PairPut.j1L_is x0 x1 x2 x8 x9 x40) (LimIs.step (f := fun k => if x40 = true then (if x8.length + x0.length < 5864062014805 then ((some (x8 ++ x0 : List (S29))).bind fun y120 => (if 0 ≤ x9 then (if x9 < (y120.length : Int) then (some ((y120.set (x9 : Int).toNat (⟨(rd_T29 y120 x9).f0, x2⟩ : S29)), true)) else (none)) else (none))) else (none)) else (if (x0.length : Int) ≥ 48 then (if x8.length + x0.length < 5864062014805 then (some ((x8 ++ x0), false)) else (none)) else (if 0 ≤ x9 then (if x9 ≤ (x0.length : Int) then ((some (x0.take (x9 : Int).toNat : List (S29))).bind fun y127 => (if x8.length + y127.length < 5864062014805 then ((some (x8 ++ y127 : List (S29))).bind fun y131 => (if y131.length < 5864062014805 then ((some (y131 ++ [(⟨x1, x2⟩ : S29)] : List (S29))).bind fun y134 => ((some (x0.drop (x9 : Int).toNat : List (S29))).bind fun y137 => (if y134.length + y137.length < 5864062014805 then (some ((y134 ++ y137), true)) else (none)))) else (none))) else (none))) else (none)) else (none)))) (by simp only [spec_PairPut.j1]) (fun k => by simp only [spec_PairPut.j1]) ?_)
  repeat' first
    | (with_reducible exact LimIs.const _)
    | (with_reducible refine LimIs.ite ?_ ?_)
    | (with_reducible refine LimIs.bind ?_ (fun _ => ?_))
theorem spec_PairPut.fL_eq (l0 : List (S29)) (a1 : ByteArray) (a2 : Int) : spec_PairPut.fL l0 a1 a2 = (some (([] : List (S29)) : List (S29))).bind fun y112 => ((spec_PairsValid.fL l0).bind fun t115 => (if t115 = true then ((spec_KeyValid.fL a1).bind fun t116 => (if t116 = true then ((spec_l1In.f a2 0 999).bind fun t117 => (spec_PairPut.j0L l0 a1 a2 y112 (!t117))) else (spec_PairPut.j0L l0 a1 a2 y112 true))) else (spec_PairPut.j0L l0 a1 a2 y112 true))) := by
  refine LimIs.unique (spec_PairPut.fL_is l0 a1 a2) ?_
  unfold spec_PairPut.f
  repeat' first
    | (with_reducible exact LimIs.const _)
    | (with_reducible exact spec_KeyValid.fL_is _)
    | (with_reducible exact spec_PairPut.j0L_is _ _ _ _ _)
    | (with_reducible exact spec_PairsValid.fL_is _)
    | (with_reducible refine LimIs.ite ?_ ?_)
    | (with_reducible refine LimIs.bind ?_ (fun _ => ?_))
/-! ### spec_l20Rd_odd -/
noncomputable def spec_l20Rd_odd.fL (s0_0 : List Int) (s0_1 : Int) (a1 : Int) : Option (Bool × Int) := Lim (fun k => spec_l20Rd_odd.f k s0_0 s0_1 a1)
theorem spec_l20Rd_odd.fL_is (s0_0 : List Int) (s0_1 : Int) (a1 : Int) : LimIs (fun k => spec_l20Rd_odd.f k s0_0 s0_1 a1) (spec_l20Rd_odd.fL s0_0 s0_1 a1) := LimIs.of_mono (fun k r h => spec_l20Rd_odd.mono s0_0 s0_1 a1 k r h)
theorem spec_l20Rd_odd.fL_eq (s0_0 : List Int) (s0_1 : Int) (a1 : Int) : spec_l20Rd_odd.fL s0_0 s0_1 a1 = if a1 > 0 then ((spec_l20Rd_pick.fL s0_0 s0_1 a1).bind fun bt144 => (some ((bt144.1 == (wrap64 (a1 - 1))), bt144.2))) else (some (false, s0_1)) := by
  refine LimIs.unique (spec_l20Rd_odd.fL_is s0_0 s0_1 a1) ?_
  unfold spec_l20Rd_odd.f
  repeat' first
    | (with_reducible exact LimIs.const _)
    | (with_reducible exact spec_l20Rd_pick.fL_is _ _ _)
    | (with_reducible refine LimIs.ite ?_ ?_)
    | (with_reducible refine LimIs.bind ?_ (fun _ => ?_))
/-! ### spec_l20Key -/
noncomputable def spec_l20Key.l0L (x5 : ByteArray) (x6 : Int) (x1000 : List Int) (x1001 : Int) : Option (ByteArray × Int) := Lim (fun k => spec_l20Key.l0 k x5 x6 x1000 x1001)
theorem spec_l20Key.l0L_is (x5 : ByteArray) (x6 : Int) (x1000 : List Int) (x1001 : Int) : LimIs (fun k => spec_l20Key.l0 k x5 x6 x1000 x1001) (spec_l20Key.l0L x5 x6 x1000 x1001) := LimIs.of_mono (fun k r h => (spec_l20Key.mono_l k) x5 x6 x1000 x1001 r h)
noncomputable def spec_l20Key.fL (s0_0 : List Int) (s0_1 : Int) (a1 : Int) : Option (ByteArray × Int) := Lim (fun k => spec_l20Key.f k s0_0 s0_1 a1)
theorem spec_l20Key.fL_is (s0_0 : List Int) (s0_1 : Int) (a1 : Int) : LimIs (fun k => spec_l20Key.f k s0_0 s0_1 a1) (spec_l20Key.fL s0_0 s0_1 a1) := LimIs.of_mono (fun k r h => spec_l20Key.mono s0_0 s0_1 a1 k r h)
theorem spec_l20Key.l0L_eq (x5 : ByteArray) (x6 : Int) (x1000 : List Int) (x1001 : Int) : spec_l20Key.l0L x5 x6 x1000 x1001 = if x6 > 0 then ((spec_l20Rd_pick.fL x1000 x1001 4).bind fun bt164 => ((some (([(wrap64 (97 + bt164.1)) % 256] : List Int) : List Int)).bind fun y166 => (if x5.size + (strOfNums y166).size ≤ 9223372036854775807 then (spec_l20Key.l0L (x5 ++ (strOfNums y166)) (wrap64 (x6 - 1)) x1000 bt164.2) else (none)))) else (some (x5, x1001)) := by
  refine LimIs.unique (spec_l20Key.l0L_is x5 x6 x1000 x1001) (LimIs.step (f := fun k => if x6 > 0 then ((spec_l20Rd_pick.f k x1000 x1001 4).bind fun bt164 => ((some (([(wrap64 (97 + bt164.1)) % 256] : List Int) : List Int)).bind fun y166 => (if x5.size + (strOfNums y166).size ≤ 9223372036854775807 then (spec_l20Key.l0 k (x5 ++ (strOfNums y166)) (wrap64 (x6 - 1)) x1000 bt164.2) else (none)))) else (some (x5, x1001))) (by simp only [spec_l20Key.l0]) (fun k => by simp only [spec_l20Key.l0]) ?_)
  repeat' first
    | (with_reducible exact LimIs.const _)
    | (with_reducible exact spec_l20Key.l0L_is _ _ _ _)
    | (with_reducible exact spec_l20Rd_pick.fL_is _ _ _)
    | (with_reducible refine LimIs.ite ?_ ?_)
    | (with_reducible refine LimIs.bind ?_ (fun _ => ?_))
theorem spec_l20Key.fL_eq (s0_0 : List Int) (s0_1 : Int) (a1 : Int) : spec_l20Key.fL s0_0 s0_1 a1 = (spec_l20Rd_odd.fL s0_0 s0_1 a1).bind fun bt146 => (if bt146.1 = true then ((some (([(⟨#[]⟩ : ByteArray), (⟨#[65]⟩ : ByteArray), (⟨#[97, 49]⟩ : ByteArray), (⟨#[97, 98, 99, 100, 101]⟩ : ByteArray), (⟨#[98, 123]⟩ : ByteArray), (⟨#[97, 32, 98]⟩ : ByteArray)] : List ByteArray) : List ByteArray)).bind fun y148 => ((spec_l20Rd_pick.fL s0_0 bt146.2 6).bind fun bt151 => (if 0 ≤ bt151.1 then (if bt151.1 < (y148.length : Int) then (some (rdOf ByteArray.empty y148 bt151.1, bt151.2)) else (none)) else (none)))) else ((spec_l20Rd_pick.fL s0_0 bt146.2 12).bind fun bt154 => (if bt154.1 = 11 then ((some (([(⟨#[122, 122, 122, 122]⟩ : ByteArray), (⟨#[122, 122, 122]⟩ : ByteArray), (⟨#[97, 122, 122, 122]⟩ : ByteArray), (⟨#[122]⟩ : ByteArray), (⟨#[97, 97, 97, 97]⟩ : ByteArray)] : List ByteArray) : List ByteArray)).bind fun y156 => ((spec_l20Rd_pick.fL s0_0 bt154.2 5).bind fun bt159 => (if 0 ≤ bt159.1 then (if bt159.1 < (y156.length : Int) then (some (rdOf ByteArray.empty y156 bt159.1, bt159.2)) else (none)) else (none)))) else ((spec_l20Rd_pick.fL s0_0 bt154.2 2).bind fun bt162 => (spec_l20Key.l0L (⟨#[]⟩ : ByteArray) (wrap64 (1 + bt162.1)) s0_0 bt162.2))))) := by
  refine LimIs.unique (spec_l20Key.fL_is s0_0 s0_1 a1) ?_
  unfold spec_l20Key.f
  repeat' first
    | (with_reducible exact LimIs.const _)
    | (with_reducible exact spec_l20Key.l0L_is _ _ _ _)
    | (with_reducible exact spec_l20Rd_odd.fL_is _ _ _)
    | (with_reducible exact spec_l20Rd_pick.fL_is _ _ _)
    | (with_reducible refine LimIs.ite ?_ ?_)
    | (with_reducible refine LimIs.bind ?_ (fun _ => ?_))
/-! ### spec_l20Value -/
noncomputable def spec_l20Value.fL (s0_0 : List Int) (s0_1 : Int) (a1 : Int) : Option (Int × Int) := Lim (fun k => spec_l20Value.f k s0_0 s0_1 a1)
theorem spec_l20Value.fL_is (s0_0 : List Int) (s0_1 : Int) (a1 : Int) : LimIs (fun k => spec_l20Value.f k s0_0 s0_1 a1) (spec_l20Value.fL s0_0 s0_1 a1) := LimIs.of_mono (fun k r h => spec_l20Value.mono s0_0 s0_1 a1 k r h)
theorem spec_l20Value.fL_eq (s0_0 : List Int) (s0_1 : Int) (a1 : Int) : spec_l20Value.fL s0_0 s0_1 a1 = (spec_l20Rd_odd.fL s0_0 s0_1 a1).bind fun bt169 => (if bt169.1 = true then ((some (([(-1), 1000] : List Int) : List Int)).bind fun y171 => ((spec_l20Rd_pick.fL s0_0 bt169.2 2).bind fun bt174 => (if 0 ≤ bt174.1 then (if bt174.1 < (y171.length : Int) then (some (rd y171 bt174.1, bt174.2)) else (none)) else (none)))) else ((spec_l20Rd_pick.fL s0_0 bt169.2 20).bind fun bt177 => ((some (([bt177.1, 999] : List Int) : List Int)).bind fun y179 => ((spec_l20Rd_pick.fL s0_0 bt177.2 9).bind fun bt182 => (if 0 ≤ (wrap64 (Int.tdiv bt182.1 8)) then (if (wrap64 (Int.tdiv bt182.1 8)) < (y179.length : Int) then (some (rd y179 (wrap64 (Int.tdiv bt182.1 8)), bt182.2)) else (none)) else (none)))))) := by
  refine LimIs.unique (spec_l20Value.fL_is s0_0 s0_1 a1) ?_
  unfold spec_l20Value.f
  repeat' first
    | (with_reducible exact LimIs.const _)
    | (with_reducible exact spec_l20Rd_odd.fL_is _ _ _)
    | (with_reducible exact spec_l20Rd_pick.fL_is _ _ _)
    | (with_reducible refine LimIs.ite ?_ ?_)
    | (with_reducible refine LimIs.bind ?_ (fun _ => ?_))
/-! ### spec_KeyAt -/
noncomputable def spec_KeyAt.l0L (x0 : Int) (x3 : ByteArray) (x4 : Int) : Option (ByteArray) := Lim (fun k => spec_KeyAt.l0 k x0 x3 x4)
theorem spec_KeyAt.l0L_is (x0 : Int) (x3 : ByteArray) (x4 : Int) : LimIs (fun k => spec_KeyAt.l0 k x0 x3 x4) (spec_KeyAt.l0L x0 x3 x4) := LimIs.of_mono (fun k r h => (spec_KeyAt.mono_l k) x0 x3 x4 r h)
noncomputable def spec_KeyAt.fL (a0 : Int) : Option (ByteArray) := Lim (fun k => spec_KeyAt.f k a0)
theorem spec_KeyAt.fL_is (a0 : Int) : LimIs (fun k => spec_KeyAt.f k a0) (spec_KeyAt.fL a0) := LimIs.of_mono (fun k r h => spec_KeyAt.mono a0 k r h)
theorem spec_KeyAt.l0L_eq (x0 : Int) (x3 : ByteArray) (x4 : Int) : spec_KeyAt.l0L x0 x3 x4 = if x4 < 4 then ((spec_l1Weight.f x4).bind fun t186 => (if t186 = 0 then (none) else ((some (([(wrap64 (97 + (wrap64 (Int.tdiv x0 t186)))) % 256] : List Int) : List Int)).bind fun y187 => (if x3.size + (strOfNums y187).size ≤ 9223372036854775807 then ((spec_l1Weight.f x4).bind fun t190 => (if t190 = 0 then (none) else (if (Int.tmod x0 t190) = 0 then (some (x3 ++ (strOfNums y187))) else (spec_KeyAt.l0L (wrap64 ((Int.tmod x0 t190) - 1)) (x3 ++ (strOfNums y187)) (wrap64 (x4 + 1)))))) else (none))))) else (some x3) := by
  refine LimIs.unique (spec_KeyAt.l0L_is x0 x3 x4) (LimIs.step (f := fun k => if x4 < 4 then ((spec_l1Weight.f x4).bind fun t186 => (if t186 = 0 then (none) else ((some (([(wrap64 (97 + (wrap64 (Int.tdiv x0 t186)))) % 256] : List Int) : List Int)).bind fun y187 => (if x3.size + (strOfNums y187).size ≤ 9223372036854775807 then ((spec_l1Weight.f x4).bind fun t190 => (if t190 = 0 then (none) else (if (Int.tmod x0 t190) = 0 then (some (x3 ++ (strOfNums y187))) else (spec_KeyAt.l0 k (wrap64 ((Int.tmod x0 t190) - 1)) (x3 ++ (strOfNums y187)) (wrap64 (x4 + 1)))))) else (none))))) else (some x3)) (by simp only [spec_KeyAt.l0]) (fun k => by simp only [spec_KeyAt.l0]) ?_)
  repeat' first
    | (with_reducible exact LimIs.const _)
    | (with_reducible exact spec_KeyAt.l0L_is _ _ _)
    | (with_reducible refine LimIs.ite ?_ ?_)
    | (with_reducible refine LimIs.bind ?_ (fun _ => ?_))
theorem spec_KeyAt.fL_eq (a0 : Int) : spec_KeyAt.fL a0 = (spec_l1In.f a0 0 475253).bind fun t185 => (if t185 = true then (spec_KeyAt.l0L a0 (⟨#[]⟩ : ByteArray) 0) else (some (⟨#[]⟩ : ByteArray))) := by
  refine LimIs.unique (spec_KeyAt.fL_is a0) ?_
  unfold spec_KeyAt.f
  repeat' first
    | (with_reducible exact LimIs.const _)
    | (with_reducible exact spec_KeyAt.l0L_is _ _ _)
    | (with_reducible refine LimIs.ite ?_ ?_)
    | (with_reducible refine LimIs.bind ?_ (fun _ => ?_))
/-! ### spec_l20Pairs -/
noncomputable def spec_l20Pairs.l0L (x1 : Int) (x5 : List (S29)) (x6 : Int) (x1000 : List Int) (x1001 : Int) : Option ((List (S29)) × Int) := Lim (fun k => spec_l20Pairs.l0 k x1 x5 x6 x1000 x1001)
theorem spec_l20Pairs.l0L_is (x1 : Int) (x5 : List (S29)) (x6 : Int) (x1000 : List Int) (x1001 : Int) : LimIs (fun k => spec_l20Pairs.l0 k x1 x5 x6 x1000 x1001) (spec_l20Pairs.l0L x1 x5 x6 x1000 x1001) := LimIs.of_mono (fun k r h => (spec_l20Pairs.mono_l k).1 x1 x5 x6 x1000 x1001 r h)
noncomputable def spec_l20Pairs.j3L (x1 : Int) (x5 : List (S29)) (x1000 : List Int) (x1001 : Int) : Option ((List (S29)) × Int) := Lim (fun k => spec_l20Pairs.j3 k x1 x5 x1000 x1001)
theorem spec_l20Pairs.j3L_is (x1 : Int) (x5 : List (S29)) (x1000 : List Int) (x1001 : Int) : LimIs (fun k => spec_l20Pairs.j3 k x1 x5 x1000 x1001) (spec_l20Pairs.j3L x1 x5 x1000 x1001) := LimIs.of_mono (fun k r h => (spec_l20Pairs.mono_l k).2.1 x1 x5 x1000 x1001 r h)
noncomputable def spec_l20Pairs.l1L (x1 : Int) (x5 : List (S29)) (x9 : Int) (x1000 : List Int) (x1001 : Int) : Option ((List (S29)) × Int) := Lim (fun k => spec_l20Pairs.l1 k x1 x5 x9 x1000 x1001)
theorem spec_l20Pairs.l1L_is (x1 : Int) (x5 : List (S29)) (x9 : Int) (x1000 : List Int) (x1001 : Int) : LimIs (fun k => spec_l20Pairs.l1 k x1 x5 x9 x1000 x1001) (spec_l20Pairs.l1L x1 x5 x9 x1000 x1001) := LimIs.of_mono (fun k r h => (spec_l20Pairs.mono_l k).2.2.1 x1 x5 x9 x1000 x1001 r h)
noncomputable def spec_l20Pairs.j2L (x1 : Int) (x5 : List (S29)) (x9 : Int) (x38 : Bool) (x1000 : List Int) (x1001 : Int) : Option ((List (S29)) × Int) := Lim (fun k => spec_l20Pairs.j2 k x1 x5 x9 x38 x1000 x1001)
theorem spec_l20Pairs.j2L_is (x1 : Int) (x5 : List (S29)) (x9 : Int) (x38 : Bool) (x1000 : List Int) (x1001 : Int) : LimIs (fun k => spec_l20Pairs.j2 k x1 x5 x9 x38 x1000 x1001) (spec_l20Pairs.j2L x1 x5 x9 x38 x1000 x1001) := LimIs.of_mono (fun k r h => (spec_l20Pairs.mono_l k).2.2.2 x1 x5 x9 x38 x1000 x1001 r h)
noncomputable def spec_l20Pairs.fL (s0_0 : List Int) (s0_1 : Int) (a1 : Int) : Option ((List (S29)) × Int) := Lim (fun k => spec_l20Pairs.f k s0_0 s0_1 a1)
theorem spec_l20Pairs.fL_is (s0_0 : List Int) (s0_1 : Int) (a1 : Int) : LimIs (fun k => spec_l20Pairs.f k s0_0 s0_1 a1) (spec_l20Pairs.fL s0_0 s0_1 a1) := LimIs.of_mono (fun k r h => spec_l20Pairs.mono s0_0 s0_1 a1 k r h)
theorem spec_l20Pairs.l0L_eq (x1 : Int) (x5 : List (S29)) (x6 : Int) (x1000 : List Int) (x1001 : Int) : spec_l20Pairs.l0L x1 x5 x6 x1000 x1001 = if x6 > 0 then ((spec_l20Key.fL x1000 x1001 0).bind fun bt196 => ((spec_l20Value.fL x1000 bt196.2 0).bind fun bt198 => ((spec_PairPut.fL x5 bt196.1 bt198.1).bind fun bt200 => (spec_l20Pairs.l0L x1 bt200.1 (wrap64 (x6 - 1)) x1000 bt198.2)))) else ((spec_l20Rd_pick.fL x1000 x1001 16).bind fun bt204 => (if bt204.1 = 15 then (spec_l20Pairs.l1L x1 x5 0 x1000 bt204.2) else (spec_l20Pairs.j3L x1 x5 x1000 bt204.2))) := by
  refine LimIs.unique (spec_l20Pairs.l0L_is x1 x5 x6 x1000 x1001) (LimIs.step (f := fun k => if x6 > 0 then ((spec_l20Key.f k x1000 x1001 0).bind fun bt196 => ((spec_l20Value.f k x1000 bt196.2 0).bind fun bt198 => ((spec_PairPut.f k x5 bt196.1 bt198.1).bind fun bt200 => (spec_l20Pairs.l0 k x1 bt200.1 (wrap64 (x6 - 1)) x1000 bt198.2)))) else ((spec_l20Rd_pick.f k x1000 x1001 16).bind fun bt204 => (if bt204.1 = 15 then (spec_l20Pairs.l1 k x1 x5 0 x1000 bt204.2) else (spec_l20Pairs.j3 k x1 x5 x1000 bt204.2)))) (by simp only [spec_l20Pairs.l0]) (fun k => by simp only [spec_l20Pairs.l0]) ?_)
  repeat' first
    | (with_reducible exact LimIs.const _)
    | (with_reducible exact spec_PairPut.fL_is _ _ _)
    | (with_reducible exact spec_l20Key.fL_is _ _ _)
    | (with_reducible exact spec_l20Pairs.j3L_is _ _ _ _)
    | (with_reducible exact spec_l20Pairs.l0L_is _ _ _ _ _)
    | (with_reducible exact spec_l20Pairs.l1L_is _ _ _ _ _)
    | (with_reducible exact spec_l20Rd_pick.fL_is _ _ _)
    | (with_reducible exact spec_l20Value.fL_is _ _ _)
    | (with_reducible refine LimIs.ite ?_ ?_)
    | (with_reducible refine LimIs.bind ?_ (fun _ => ?_))
theorem spec_l20Pairs.j3L_eq (x1 : Int) (x5 : List (S29)) (x1000 : List Int) (x1001 : Int) : spec_l20Pairs.j3L x1 x5 x1000 x1001 = (spec_l20Rd_odd.fL x1000 x1001 x1).bind fun bt211 => (if bt211.1 = true then ((some (([(⟨(⟨#[]⟩ : ByteArray), 0⟩ : S29), (⟨(⟨#[122, 122, 122, 122]⟩ : ByteArray), (-1)⟩ : S29), (⟨(⟨#[122, 122, 122, 122]⟩ : ByteArray), 1000⟩ : S29), (⟨(⟨#[97]⟩ : ByteArray), 1⟩ : S29), (⟨(⟨#[65]⟩ : ByteArray), 0⟩ : S29)] : List (S29)) : List (S29))).bind fun y213 => ((spec_l20Rd_pick.fL x1000 bt211.2 5).bind fun bt216 => (if 0 ≤ bt216.1 then (if bt216.1 < (y213.length : Int) then (if x5.length < 5864062014805 then (some ((x5 ++ [(⟨(rd_T29 y213 bt216.1).f0, (rd_T29 y213 bt216.1).f1⟩ : S29)]), bt216.2)) else (none)) else (none)) else (none)))) else (some (x5, bt211.2))) := by
  refine LimIs.unique (spec_l20Pairs.j3L_is x1 x5 x1000 x1001) (LimIs.step (f := fun k => (spec_l20Rd_odd.f k x1000 x1001 x1).bind fun bt211 => (if bt211.1 = true then ((some (([(⟨(⟨#[]⟩ : ByteArray), 0⟩ : S29), (⟨(⟨#[122, 122, 122, 122]⟩ : ByteArray), (-1)⟩ : S29), (⟨(⟨#[122, 122, 122, 122]⟩ : ByteArray), 1000⟩ : S29), (⟨(⟨#[97]⟩ : ByteArray), 1⟩ : S29), (⟨(⟨#[65]⟩ : ByteArray), 0⟩ : S29)] : List (S29)) : List (S29))).bind fun y213 => ((spec_l20Rd_pick.f k x1000 bt211.2 5).bind fun bt216 => (if 0 ≤ bt216.1 then (if bt216.1 < (y213.length : Int) then (if x5.length < 5864062014805 then (some ((x5 ++ [(⟨(rd_T29 y213 bt216.1).f0, (rd_T29 y213 bt216.1).f1⟩ : S29)]), bt216.2)) else (none)) else (none)) else (none)))) else (some (x5, bt211.2)))) (by simp only [spec_l20Pairs.j3]) (fun k => by simp only [spec_l20Pairs.j3]) ?_)
  repeat' first
    | (with_reducible exact LimIs.const _)
    | (with_reducible exact spec_l20Rd_odd.fL_is _ _ _)
    | (with_reducible exact spec_l20Rd_pick.fL_is _ _ _)
    | (with_reducible refine LimIs.ite ?_ ?_)
    | (with_reducible refine LimIs.bind ?_ (fun _ => ?_))
theorem spec_l20Pairs.l1L_eq (x1 : Int) (x5 : List (S29)) (x9 : Int) (x1000 : List Int) (x1001 : Int) : spec_l20Pairs.l1L x1 x5 x9 x1000 x1001 = if (x5.length : Int) < 48 then (spec_l20Pairs.j2L x1 x5 x9 (decide (x9 < 200)) x1000 x1001) else (spec_l20Pairs.j2L x1 x5 x9 false x1000 x1001) := by
  refine LimIs.unique (spec_l20Pairs.l1L_is x1 x5 x9 x1000 x1001) (LimIs.step (f := fun k => if (x5.length : Int) < 48 then (spec_l20Pairs.j2 k x1 x5 x9 (decide (x9 < 200)) x1000 x1001) else (spec_l20Pairs.j2 k x1 x5 x9 false x1000 x1001)) (by simp only [spec_l20Pairs.l1]) (fun k => by simp only [spec_l20Pairs.l1]) ?_)
  repeat' first
    | (with_reducible exact LimIs.const _)
    | (with_reducible exact spec_l20Pairs.j2L_is _ _ _ _ _ _)
    | (with_reducible refine LimIs.ite ?_ ?_)
    | (with_reducible refine LimIs.bind ?_ (fun _ => ?_))
theorem spec_l20Pairs.j2L_eq (x1 : Int) (x5 : List (S29)) (x9 : Int) (x38 : Bool) (x1000 : List Int) (x1001 : Int) : spec_l20Pairs.j2L x1 x5 x9 x38 x1000 x1001 = if x38 = true then ((spec_KeyAt.fL (wrap64 (x9 * 9))).bind fun t206 => ((spec_PairPut.fL x5 t206 x9).bind fun bt207 => (spec_l20Pairs.l1L x1 bt207.1 (wrap64 (x9 + 1)) x1000 x1001))) else (spec_l20Pairs.j3L x1 x5 x1000 x1001) := by
  refine LimIs.unique (spec_l20Pairs.j2L_is x1 x5 x9 x38 x1000 x1001) (LimIs.step (f := fun k => if x38 = true then ((spec_KeyAt.f k (wrap64 (x9 * 9))).bind fun t206 => ((spec_PairPut.f k x5 t206 x9).bind fun bt207 => (spec_l20Pairs.l1 k x1 bt207.1 (wrap64 (x9 + 1)) x1000 x1001))) else (spec_l20Pairs.j3 k x1 x5 x1000 x1001)) (by simp only [spec_l20Pairs.j2]) (fun k => by simp only [spec_l20Pairs.j2]) ?_)
  repeat' first
    | (with_reducible exact LimIs.const _)
    | (with_reducible exact spec_KeyAt.fL_is _)
    | (with_reducible exact spec_PairPut.fL_is _ _ _)
    | (with_reducible exact spec_l20Pairs.j3L_is _ _ _ _)
    | (with_reducible exact spec_l20Pairs.l1L_is _ _ _ _ _)
    | (with_reducible refine LimIs.ite ?_ ?_)
    | (with_reducible refine LimIs.bind ?_ (fun _ => ?_))
theorem spec_l20Pairs.fL_eq (s0_0 : List Int) (s0_1 : Int) (a1 : Int) : spec_l20Pairs.fL s0_0 s0_1 a1 = (spec_l20Rd_pick.fL s0_0 s0_1 9).bind fun bt194 => (spec_l20Pairs.l0L a1 (([] : List (S29))) bt194.1 s0_0 bt194.2) := by
  refine LimIs.unique (spec_l20Pairs.fL_is s0_0 s0_1 a1) ?_
  unfold spec_l20Pairs.f
  repeat' first
    | (with_reducible exact LimIs.const _)
    | (with_reducible exact spec_l20Pairs.l0L_is _ _ _ _ _)
    | (with_reducible exact spec_l20Rd_pick.fL_is _ _ _)
    | (with_reducible refine LimIs.ite ?_ ?_)
    | (with_reducible refine LimIs.bind ?_ (fun _ => ?_))
/-! ### spec_DrawPairsDigest -/
noncomputable def spec_DrawPairsDigest.fL (l0 : List Int) : Option ((List (S29))) := Lim (fun k => spec_DrawPairsDigest.f k l0)
theorem spec_DrawPairsDigest.fL_is (l0 : List Int) : LimIs (fun k => spec_DrawPairsDigest.f k l0) (spec_DrawPairsDigest.fL l0) := LimIs.of_mono (fun k r h => spec_DrawPairsDigest.mono l0 k r h)
theorem spec_DrawPairsDigest.fL_eq (l0 : List Int) : spec_DrawPairsDigest.fL l0 = (spec_l20Open.f l0).bind fun bt228 => ((spec_l20Pairs.fL bt228.1 bt228.2 9).bind fun bt231 => (some bt231.1)) := by
  refine LimIs.unique (spec_DrawPairsDigest.fL_is l0) ?_
  unfold spec_DrawPairsDigest.f
  repeat' first
    | (with_reducible exact LimIs.const _)
    | (with_reducible exact spec_l20Pairs.fL_is _ _ _)
    | (with_reducible refine LimIs.ite ?_ ?_)
    | (with_reducible refine LimIs.bind ?_ (fun _ => ?_))
/-! ### impl_lettersOnly -/
noncomputable def impl_lettersOnly.fL (a0 : ByteArray) : Option (Bool) := Lim (fun k => impl_lettersOnly.f k a0)
theorem impl_lettersOnly.fL_is (a0 : ByteArray) : LimIs (fun k => impl_lettersOnly.f k a0) (impl_lettersOnly.fL a0) := LimIs.of_mono (fun k r h => impl_lettersOnly.mono a0 k r h)
theorem impl_lettersOnly.fL_eq (a0 : ByteArray) : impl_lettersOnly.fL a0 = if a0.toList = ([] : List UInt8) then (some true) else (if 0 < (a0.size : Int) then (if (bt a0 0) ≥ 97 then (if (bt a0 0) ≤ 122 then (if 1 ≤ (a0.size : Int) then ((impl_lettersOnly.fL (a0.extract 1 a0.size)).bind fun t235 => (some t235)) else (none)) else (some false)) else (some false)) else (none)) := by
  refine LimIs.unique (impl_lettersOnly.fL_is a0) (LimIs.step (f := fun k => if a0.toList = ([] : List UInt8) then (some true) else (if 0 < (a0.size : Int) then (if (bt a0 0) ≥ 97 then (if (bt a0 0) ≤ 122 then (if 1 ≤ (a0.size : Int) then ((impl_lettersOnly.f k (a0.extract 1 a0.size)).bind fun t235 => (some t235)) else (none)) else (some false)) else (some false)) else (none))) (by simp only [impl_lettersOnly.f]) (fun k => by simp only [impl_lettersOnly.f]) ?_)
  repeat' first
    | (with_reducible exact LimIs.const _)
    | (with_reducible exact impl_lettersOnly.fL_is _)
    | (with_reducible refine LimIs.ite ?_ ?_)
    | (with_reducible refine LimIs.bind ?_ (fun _ => ?_))
/-! ### impl_KeyValid -/
noncomputable def impl_KeyValid.fL (a0 : ByteArray) : Option (Bool) := Lim (fun k => impl_KeyValid.f k a0)
theorem impl_KeyValid.fL_is (a0 : ByteArray) : LimIs (fun k => impl_KeyValid.f k a0) (impl_KeyValid.fL a0) := LimIs.of_mono (fun k r h => impl_KeyValid.mono a0 k r h)
theorem impl_KeyValid.fL_eq (a0 : ByteArray) : impl_KeyValid.fL a0 = if (a0.size : Int) < 1 then (some false) else (if (a0.size : Int) > 4 then (some false) else ((impl_lettersOnly.fL a0).bind fun t236 => (some t236))) := by
  refine LimIs.unique (impl_KeyValid.fL_is a0) ?_
  unfold impl_KeyValid.f
  repeat' first
    | (with_reducible exact LimIs.const _)
    | (with_reducible exact impl_lettersOnly.fL_is _)
    | (with_reducible refine LimIs.ite ?_ ?_)
    | (with_reducible refine LimIs.bind ?_ (fun _ => ?_))
/-! ### impl_PairsValid -/
noncomputable def impl_PairsValid.l0L (x0 : List (S29)) (x8 : List (S29)) (x9 : Int) (x10 : Int) : Option (Bool) := Lim (fun k => impl_PairsValid.l0 k x0 x8 x9 x10)
theorem impl_PairsValid.l0L_is (x0 : List (S29)) (x8 : List (S29)) (x9 : Int) (x10 : Int) : LimIs (fun k => impl_PairsValid.l0 k x0 x8 x9 x10) (impl_PairsValid.l0L x0 x8 x9 x10) := LimIs.of_mono (fun k r h => (impl_PairsValid.mono_l k).1 x0 x8 x9 x10 r h)
noncomputable def impl_PairsValid.j1L (x0 : List (S29)) (x3 : Int) (x8 : List (S29)) (x9 : Int) (x10 : Int) (x24 : Bool) (x239000 : ByteArray) (x239001 : Int) : Option (Bool) := Lim (fun k => impl_PairsValid.j1 k x0 x3 x8 x9 x10 x24 x239000 x239001)
theorem impl_PairsValid.j1L_is (x0 : List (S29)) (x3 : Int) (x8 : List (S29)) (x9 : Int) (x10 : Int) (x24 : Bool) (x239000 : ByteArray) (x239001 : Int) : LimIs (fun k => impl_PairsValid.j1 k x0 x3 x8 x9 x10 x24 x239000 x239001) (impl_PairsValid.j1L x0 x3 x8 x9 x10 x24 x239000 x239001) := LimIs.of_mono (fun k r h => (impl_PairsValid.mono_l k).2 x0 x3 x8 x9 x10 x24 x239000 x239001 r h)
noncomputable def impl_PairsValid.fL (l0 : List (S29)) : Option (Bool) := Lim (fun k => impl_PairsValid.f k l0)
theorem impl_PairsValid.fL_is (l0 : List (S29)) : LimIs (fun k => impl_PairsValid.f k l0) (impl_PairsValid.fL l0) := LimIs.of_mono (fun k r h => impl_PairsValid.mono l0 k r h)
theorem impl_PairsValid.l0L_eq (x0 : List (S29)) (x8 : List (S29)) (x9 : Int) (x10 : Int) : impl_PairsValid.l0L x0 x8 x9 x10 = if x10 < x9 then (if 0 ≤ x10 then (if x10 < (x8.length : Int) then ((impl_KeyValid.fL ((rd_T29 x8 x10).f0)).bind fun t239 => (if t239 = true then ((impl_valueValid.f ((rd_T29 x8 x10).f1)).bind fun t240 => (impl_PairsValid.j1L x0 x10 x8 x9 x10 (!t240) ((rd_T29 x8 x10).f0) ((rd_T29 x8 x10).f1))) else (impl_PairsValid.j1L x0 x10 x8 x9 x10 true ((rd_T29 x8 x10).f0) ((rd_T29 x8 x10).f1)))) else (none)) else (none)) else (some true) := by
  refine LimIs.unique (impl_PairsValid.l0L_is x0 x8 x9 x10) (LimIs.step (f := fun k => if x10 < x9 then (if 0 ≤ x10 then (if x10 < (x8.length : Int) then ((impl_KeyValid.f k ((rd_T29 x8 x10).f0)).bind fun t239 => (if t239 = true then ((impl_valueValid.f ((rd_T29 x8 x10).f1)).bind fun t240 => (impl_PairsValid.j1 k x0 x10 x8 x9 x10 (!t240) ((rd_T29 x8 x10).f0) ((rd_T29 x8 x10).f1))) else (impl_PairsValid.j1 k x0 x10 x8 x9 x10 true ((rd_T29 x8 x10).f0) ((rd_T29 x8 x10).f1)))) else (none)) else (none)) else (some true)) (by simp only [impl_PairsValid.l0]) (fun k => by simp only [impl_PairsValid.l0]) ?_)
  repeat' first
    | (with_reducible exact LimIs.const _)
    | (with_reducible exact impl_KeyValid.fL_is _)
    | (with_reducible exact impl_PairsValid.j1L_is _ _ _ _ _ _ _ _)
    | (with_reducible refine LimIs.ite ?_ ?_)
    | (with_reducible refine LimIs.bind ?_ (fun _ => ?_))
theorem impl_PairsValid.j1L_eq (x0 : List (S29)) (x3 : Int) (x8 : List (S29)) (x9 : Int) (x10 : Int) (x24 : Bool) (x239000 : ByteArray) (x239001 : Int) : impl_PairsValid.j1L x0 x3 x8 x9 x10 x24 x239000 x239001 = if x24 = true then (some false) else (if x3 > 0 then (if 0 ≤ (wrap64 (x3 - 1)) then (if (wrap64 (x3 - 1)) < (x0.length : Int) then (if ((Op.bytesLess (((rd_T29 x0 (wrap64 (x3 - 1))).f0).toList) x239000.toList) = true) then (impl_PairsValid.l0L x0 x8 x9 (wrap64 (x10 + 1))) else (some false)) else (none)) else (none)) else (impl_PairsValid.l0L x0 x8 x9 (wrap64 (x10 + 1)))) := by
  refine LimIs.unique (impl_PairsValid.j1L_is x0 x3 x8 x9 x10 x24 x239000 x239001) (LimIs.step (f := fun k => if x24 = true then (some false) else (if x3 > 0 then (if 0 ≤ (wrap64 (x3 - 1)) then (if (wrap64 (x3 - 1)) < (x0.length : Int) then (if ((Op.bytesLess (((rd_T29 x0 (wrap64 (x3 - 1))).f0).toList) x239000.toList) = true) then (impl_PairsValid.l0 k x0 x8 x9 (wrap64 (x10 + 1))) else (some false)) else (none)) else (none)) else (impl_PairsValid.l0 k x0 x8 x9 (wrap64 (x10 + 1))))) (by simp only [impl_PairsValid.j1]) (fun k => by simp only [impl_PairsValid.j1]) ?_)
  repeat' first
    | (with_reducible exact LimIs.const _)
    | (with_reducible exact impl_PairsValid.l0L_is _ _ _ _)
    | (with_reducible refine LimIs.ite ?_ ?_)
    | (with_reducible refine LimIs.bind ?_ (fun _ => ?_))
theorem impl_PairsValid.fL_eq (l0 : List (S29)) : impl_PairsValid.fL l0 = if (l0.length : Int) > 48 then (some false) else (impl_PairsValid.l0L l0 l0 (l0.length : Int) 0) := by
  refine LimIs.unique (impl_PairsValid.fL_is l0) ?_
  unfold impl_PairsValid.f
  repeat' first
    | (with_reducible exact LimIs.const _)
    | (with_reducible exact impl_PairsValid.l0L_is _ _ _ _)
    | (with_reducible refine LimIs.ite ?_ ?_)
    | (with_reducible refine LimIs.bind ?_ (fun _ => ?_))
/-! ### impl_keysFrom -/
noncomputable def impl_keysFrom.fL (a0 : Int) : Option (Int) := Lim (fun k => impl_keysFrom.f k a0)
theorem impl_keysFrom.fL_is (a0 : Int) : LimIs (fun k => impl_keysFrom.f k a0) (impl_keysFrom.fL a0) := LimIs.of_mono (fun k r h => impl_keysFrom.mono a0 k r h)
theorem impl_keysFrom.fL_eq (a0 : Int) : impl_keysFrom.fL a0 = if a0 ≥ 4 then (some 1) else ((impl_keysFrom.fL (wrap64 (a0 + 1))).bind fun t242 => (some (wrap64 (1 + (wrap64 (26 * t242)))))) := by
  refine LimIs.unique (impl_keysFrom.fL_is a0) (LimIs.step (f := fun k => if a0 ≥ 4 then (some 1) else ((impl_keysFrom.f k (wrap64 (a0 + 1))).bind fun t242 => (some (wrap64 (1 + (wrap64 (26 * t242))))))) (by simp only [impl_keysFrom.f]) (fun k => by simp only [impl_keysFrom.f]) ?_)
  repeat' first
    | (with_reducible exact LimIs.const _)
    | (with_reducible exact impl_keysFrom.fL_is _)
    | (with_reducible refine LimIs.ite ?_ ?_)
    | (with_reducible refine LimIs.bind ?_ (fun _ => ?_))
/-! ### impl_rankBelow -/
noncomputable def impl_rankBelow.fL (a0 : ByteArray) (a1 : Int) : Option (Int) := Lim (fun k => impl_rankBelow.f k a0 a1)
theorem impl_rankBelow.fL_is (a0 : ByteArray) (a1 : Int) : LimIs (fun k => impl_rankBelow.f k a0 a1) (impl_rankBelow.fL a0 a1) := LimIs.of_mono (fun k r h => impl_rankBelow.mono a0 a1 k r h)
theorem impl_rankBelow.fL_eq (a0 : ByteArray) (a1 : Int) : impl_rankBelow.fL a0 a1 = if a0.toList = ([] : List UInt8) then (some 0) else (if 0 < (a0.size : Int) then ((impl_keysFrom.fL a1).bind fun t243 => (if 1 ≤ (a0.size : Int) then ((impl_rankBelow.fL (a0.extract 1 a0.size) (wrap64 (a1 + 1))).bind fun t244 => (some (wrap64 ((wrap64 (1 + (wrap64 ((((bt a0 0) - 97) % 256) * t243)))) + t244)))) else (none))) else (none)) := by
  refine LimIs.unique (impl_rankBelow.fL_is a0 a1) (LimIs.step (f := fun k => if a0.toList = ([] : List UInt8) then (some 0) else (if 0 < (a0.size : Int) then ((impl_keysFrom.f k a1).bind fun t243 => (if 1 ≤ (a0.size : Int) then ((impl_rankBelow.f k (a0.extract 1 a0.size) (wrap64 (a1 + 1))).bind fun t244 => (some (wrap64 ((wrap64 (1 + (wrap64 ((((bt a0 0) - 97) % 256) * t243)))) + t244)))) else (none))) else (none))) (by simp only [impl_rankBelow.f]) (fun k => by simp only [impl_rankBelow.f]) ?_)
  repeat' first
    | (with_reducible exact LimIs.const _)
    | (with_reducible exact impl_keysFrom.fL_is _)
    | (with_reducible exact impl_rankBelow.fL_is _ _)
    | (with_reducible refine LimIs.ite ?_ ?_)
    | (with_reducible refine LimIs.bind ?_ (fun _ => ?_))
/-! ### impl_KeyRank -/
noncomputable def impl_KeyRank.fL (a0 : ByteArray) : Option (Int) := Lim (fun k => impl_KeyRank.f k a0)
theorem impl_KeyRank.fL_is (a0 : ByteArray) : LimIs (fun k => impl_KeyRank.f k a0) (impl_KeyRank.fL a0) := LimIs.of_mono (fun k r h => impl_KeyRank.mono a0 k r h)
theorem impl_KeyRank.fL_eq (a0 : ByteArray) : impl_KeyRank.fL a0 = (impl_KeyValid.fL a0).bind fun t245 => (if t245 = true then ((impl_rankBelow.fL a0 1).bind fun t246 => (some (wrap64 (t246 - 1)))) else (some (-1))) := by
  refine LimIs.unique (impl_KeyRank.fL_is a0) ?_
  unfold impl_KeyRank.f
  repeat' first
    | (with_reducible exact LimIs.const _)
    | (with_reducible exact impl_KeyValid.fL_is _)
    | (with_reducible exact impl_rankBelow.fL_is _ _)
    | (with_reducible refine LimIs.ite ?_ ?_)
    | (with_reducible refine LimIs.bind ?_ (fun _ => ?_))
/-! ### impl_PairDigest -/
noncomputable def impl_PairDigest.fL (a0_0 : ByteArray) (a0_1 : Int) : Option (Int) := Lim (fun k => impl_PairDigest.f k a0_0 a0_1)
theorem impl_PairDigest.fL_is (a0_0 : ByteArray) (a0_1 : Int) : LimIs (fun k => impl_PairDigest.f k a0_0 a0_1) (impl_PairDigest.fL a0_0 a0_1) := LimIs.of_mono (fun k r h => impl_PairDigest.mono a0_0 a0_1 k r h)
theorem impl_PairDigest.fL_eq (a0_0 : ByteArray) (a0_1 : Int) : impl_PairDigest.fL a0_0 a0_1 = (impl_KeyValid.fL a0_0).bind fun t248 => (if t248 = true then ((impl_valueValid.f a0_1).bind fun t249 => (if t249 = true then ((impl_KeyRank.fL a0_0).bind fun t250 => (some (Int.tmod (wrap64 ((wrap64 ((wrap64 (1009 * t250)) + (wrap64 (7 * a0_1)))) + 3)) 99991))) else (some (-1)))) else (some (-1))) := by
  refine LimIs.unique (impl_PairDigest.fL_is a0_0 a0_1) ?_
  unfold impl_PairDigest.f
  repeat' first
    | (with_reducible exact LimIs.const _)
    | (with_reducible exact impl_KeyRank.fL_is _)
    | (with_reducible exact impl_KeyValid.fL_is _)
    | (with_reducible refine LimIs.ite ?_ ?_)
    | (with_reducible refine LimIs.bind ?_ (fun _ => ?_))
/-! ### impl_PairsDigest -/
noncomputable def impl_PairsDigest.l0L (x3 : Int) (x9 : List (S29)) (x10 : Int) (x11 : Int) : Option (Int) := Lim (fun k => impl_PairsDigest.l0 k x3 x9 x10 x11)
theorem impl_PairsDigest.l0L_is (x3 : Int) (x9 : List (S29)) (x10 : Int) (x11 : Int) : LimIs (fun k => impl_PairsDigest.l0 k x3 x9 x10 x11) (impl_PairsDigest.l0L x3 x9 x10 x11) := LimIs.of_mono (fun k r h => (impl_PairsDigest.mono_l k) x3 x9 x10 x11 r h)
noncomputable def impl_PairsDigest.fL (l0 : List (S29)) : Option (Int) := Lim (fun k => impl_PairsDigest.f k l0)
theorem impl_PairsDigest.fL_is (l0 : List (S29)) : LimIs (fun k => impl_PairsDigest.f k l0) (impl_PairsDigest.fL l0) := LimIs.of_mono (fun k r h => impl_PairsDigest.mono l0 k r h)
theorem impl_PairsDigest.l0L_eq (x3 : Int) (x9 : List (S29)) (x10 : Int) (x11 : Int) : impl_PairsDigest.l0L x3 x9 x10 x11 = if x11 < x10 then (if 0 ≤ x11 then (if x11 < (x9.length : Int) then ((impl_PairDigest.fL ((rd_T29 x9 x11).f0) ((rd_T29 x9 x11).f1)).bind fun t254 => (impl_PairsDigest.l0L (wrap64 (x3 + t254)) x9 x10 (wrap64 (x11 + 1)))) else (none)) else (none)) else (some (Int.tmod x3 99991)) := by
  refine LimIs.unique (impl_PairsDigest.l0L_is x3 x9 x10 x11) (LimIs.step (f := fun k => if x11 < x10 then (if 0 ≤ x11 then (if x11 < (x9.length : Int) then ((impl_PairDigest.f k ((rd_T29 x9 x11).f0) ((rd_T29 x9 x11).f1)).bind fun t254 => (impl_PairsDigest.l0 k (wrap64 (x3 + t254)) x9 x10 (wrap64 (x11 + 1)))) else (none)) else (none)) else (some (Int.tmod x3 99991))) (by simp only [impl_PairsDigest.l0]) (fun k => by simp only [impl_PairsDigest.l0]) ?_)
  repeat' first
    | (with_reducible exact LimIs.const _)
    | (with_reducible exact impl_PairDigest.fL_is _ _)
    | (with_reducible exact impl_PairsDigest.l0L_is _ _ _ _)
    | (with_reducible refine LimIs.ite ?_ ?_)
    | (with_reducible refine LimIs.bind ?_ (fun _ => ?_))
theorem impl_PairsDigest.fL_eq (l0 : List (S29)) : impl_PairsDigest.fL l0 = (impl_PairsValid.fL l0).bind fun t251 => (if t251 = true then (impl_PairsDigest.l0L 0 l0 (l0.length : Int) 0) else (some (-1))) := by
  refine LimIs.unique (impl_PairsDigest.fL_is l0) ?_
  unfold impl_PairsDigest.f
  repeat' first
    | (with_reducible exact LimIs.const _)
    | (with_reducible exact impl_PairsDigest.l0L_is _ _ _ _)
    | (with_reducible exact impl_PairsValid.fL_is _)
    | (with_reducible refine LimIs.ite ?_ ?_)
    | (with_reducible refine LimIs.bind ?_ (fun _ => ?_))
/-! ### spec_KeyRank -/
noncomputable def spec_KeyRank.l0L (x0 : ByteArray) (x3 : Int) (x4 : Int) : Option (Int) := Lim (fun k => spec_KeyRank.l0 k x0 x3 x4)
theorem spec_KeyRank.l0L_is (x0 : ByteArray) (x3 : Int) (x4 : Int) : LimIs (fun k => spec_KeyRank.l0 k x0 x3 x4) (spec_KeyRank.l0L x0 x3 x4) := LimIs.of_mono (fun k r h => (spec_KeyRank.mono_l k) x0 x3 x4 r h)
noncomputable def spec_KeyRank.fL (a0 : ByteArray) : Option (Int) := Lim (fun k => spec_KeyRank.f k a0)
theorem spec_KeyRank.fL_is (a0 : ByteArray) : LimIs (fun k => spec_KeyRank.f k a0) (spec_KeyRank.fL a0) := LimIs.of_mono (fun k r h => spec_KeyRank.mono a0 k r h)
theorem spec_KeyRank.l0L_eq (x0 : ByteArray) (x3 : Int) (x4 : Int) : spec_KeyRank.l0L x0 x3 x4 = if x4 < (x0.size : Int) then (if 0 ≤ x4 then ((spec_l1Weight.f x4).bind fun t256 => (spec_KeyRank.l0L x0 (wrap64 ((wrap64 (x3 + 1)) + (wrap64 ((((bt x0 x4) - 97) % 256) * t256)))) (wrap64 (x4 + 1)))) else (none)) else (some x3) := by
  refine LimIs.unique (spec_KeyRank.l0L_is x0 x3 x4) (LimIs.step (f := fun k => if x4 < (x0.size : Int) then (if 0 ≤ x4 then ((spec_l1Weight.f x4).bind fun t256 => (spec_KeyRank.l0 k x0 (wrap64 ((wrap64 (x3 + 1)) + (wrap64 ((((bt x0 x4) - 97) % 256) * t256)))) (wrap64 (x4 + 1)))) else (none)) else (some x3)) (by simp only [spec_KeyRank.l0]) (fun k => by simp only [spec_KeyRank.l0]) ?_)
  repeat' first
    | (with_reducible exact LimIs.const _)
    | (with_reducible exact spec_KeyRank.l0L_is _ _ _)
    | (with_reducible refine LimIs.ite ?_ ?_)
    | (with_reducible refine LimIs.bind ?_ (fun _ => ?_))
theorem spec_KeyRank.fL_eq (a0 : ByteArray) : spec_KeyRank.fL a0 = (spec_KeyValid.fL a0).bind fun t255 => (if t255 = true then (spec_KeyRank.l0L a0 (-1) 0) else (some (-1))) := by
  refine LimIs.unique (spec_KeyRank.fL_is a0) ?_
  unfold spec_KeyRank.f
  repeat' first
    | (with_reducible exact LimIs.const _)
    | (with_reducible exact spec_KeyRank.l0L_is _ _ _)
    | (with_reducible exact spec_KeyValid.fL_is _)
    | (with_reducible refine LimIs.ite ?_ ?_)
    | (with_reducible refine LimIs.bind ?_ (fun _ => ?_))
/-! ### spec_PairDigest -/
noncomputable def spec_PairDigest.fL (a0_0 : ByteArray) (a0_1 : Int) : Option (Int) := Lim (fun k => spec_PairDigest.f k a0_0 a0_1)
theorem spec_PairDigest.fL_is (a0_0 : ByteArray) (a0_1 : Int) : LimIs (fun k => spec_PairDigest.f k a0_0 a0_1) (spec_PairDigest.fL a0_0 a0_1) := LimIs.of_mono (fun k r h => spec_PairDigest.mono a0_0 a0_1 k r h)
theorem spec_PairDigest.fL_eq (a0_0 : ByteArray) (a0_1 : Int) : spec_PairDigest.fL a0_0 a0_1 = (spec_KeyValid.fL a0_0).bind fun t258 => (if t258 = true then ((spec_l1In.f a0_1 0 999).bind fun t259 => (if t259 = true then ((spec_KeyRank.fL a0_0).bind fun t260 => (some (Int.tmod (wrap64 ((wrap64 ((wrap64 (1009 * t260)) + (wrap64 (7 * a0_1)))) + 3)) 99991))) else (some (-1)))) else (some (-1))) := by
  refine LimIs.unique (spec_PairDigest.fL_is a0_0 a0_1) ?_
  unfold spec_PairDigest.f
  repeat' first
    | (with_reducible exact LimIs.const _)
    | (with_reducible exact spec_KeyRank.fL_is _)
    | (with_reducible exact spec_KeyValid.fL_is _)
    | (with_reducible refine LimIs.ite ?_ ?_)
    | (with_reducible refine LimIs.bind ?_ (fun _ => ?_))
/-! ### spec_PairsDigest -/
noncomputable def spec_PairsDigest.l0L (x0 : List (S29)) (x3 : Int) (x4 : Int) : Option (Int) := Lim (fun k => spec_PairsDigest.l0 k x0 x3 x4)
theorem spec_PairsDigest.l0L_is (x0 : List (S29)) (x3 : Int) (x4 : Int) : LimIs (fun k => spec_PairsDigest.l0 k x0 x3 x4) (spec_PairsDigest.l0L x0 x3 x4) := LimIs.of_mono (fun k r h => (spec_PairsDigest.mono_l k) x0 x3 x4 r h)
noncomputable def spec_PairsDigest.fL (l0 : List (S29)) : Option (Int) := Lim (fun k => spec_PairsDigest.f k l0)
theorem spec_PairsDigest.fL_is (l0 : List (S29)) : LimIs (fun k => spec_PairsDigest.f k l0) (spec_PairsDigest.fL l0) := LimIs.of_mono (fun k r h => spec_PairsDigest.mono l0 k r h)
theorem spec_PairsDigest.l0L_eq (x0 : List (S29)) (x3 : Int) (x4 : Int) : spec_PairsDigest.l0L x0 x3 x4 = if x4 < (x0.length : Int) then (if 0 ≤ x4 then ((spec_PairDigest.fL ((rd_T29 x0 x4).f0) ((rd_T29 x0 x4).f1)).bind fun t263 => (spec_PairsDigest.l0L x0 (Int.tmod (wrap64 (x3 + t263)) 99991) (wrap64 (x4 + 1)))) else (none)) else (some x3) := by
  refine LimIs.unique (spec_PairsDigest.l0L_is x0 x3 x4) (LimIs.step (f := fun k => if x4 < (x0.length : Int) then (if 0 ≤ x4 then ((spec_PairDigest.f k ((rd_T29 x0 x4).f0) ((rd_T29 x0 x4).f1)).bind fun t263 => (spec_PairsDigest.l0 k x0 (Int.tmod (wrap64 (x3 + t263)) 99991) (wrap64 (x4 + 1)))) else (none)) else (some x3)) (by simp only [spec_PairsDigest.l0]) (fun k => by simp only [spec_PairsDigest.l0]) ?_)
  repeat' first
    | (with_reducible exact LimIs.const _)
    | (with_reducible exact spec_PairDigest.fL_is _ _)
    | (with_reducible exact spec_PairsDigest.l0L_is _ _ _)
    | (with_reducible refine LimIs.ite ?_ ?_)
    | (with_reducible refine LimIs.bind ?_ (fun _ => ?_))
theorem spec_PairsDigest.fL_eq (l0 : List (S29)) : spec_PairsDigest.fL l0 = (spec_PairsValid.fL l0).bind fun t261 => (if t261 = true then (spec_PairsDigest.l0L l0 0 0) else (some (-1))) := by
  refine LimIs.unique (spec_PairsDigest.fL_is l0) ?_
  unfold spec_PairsDigest.f
  repeat' first
    | (with_reducible exact LimIs.const _)
    | (with_reducible exact spec_PairsDigest.l0L_is _ _ _)
    | (with_reducible exact spec_PairsValid.fL_is _)
    | (with_reducible refine LimIs.ite ?_ ?_)
    | (with_reducible refine LimIs.bind ?_ (fun _ => ?_))
/-! ### laws_alive -/
noncomputable def laws_alive.fL : Option (Bool) := Lim (fun k => laws_alive.f k)
theorem laws_alive.fL_is : LimIs (fun k => laws_alive.f k) (laws_alive.fL) := LimIs.of_mono (fun k r h => laws_alive.mono k r h)
theorem laws_alive.fL_eq : laws_alive.fL = (impl_KeyRank.fL (⟨#[97, 97]⟩ : ByteArray)).bind fun t264 => (if t264 = 1 then ((impl_KeyRank.fL (⟨#[]⟩ : ByteArray)).bind fun t265 => (some (t265 == (-1)))) else (some false)) := by
  refine LimIs.unique (laws_alive.fL_is) ?_
  unfold laws_alive.f
  repeat' first
    | (with_reducible exact LimIs.const _)
    | (with_reducible exact impl_KeyRank.fL_is _)
    | (with_reducible refine LimIs.ite ?_ ?_)
    | (with_reducible refine LimIs.bind ?_ (fun _ => ?_))
/-! ### laws_FnPairsDigest -/
noncomputable def laws_FnPairsDigest.fL (l0 : List Int) : Option (Bool) := Lim (fun k => laws_FnPairsDigest.f k l0)
theorem laws_FnPairsDigest.fL_is (l0 : List Int) : LimIs (fun k => laws_FnPairsDigest.f k l0) (laws_FnPairsDigest.fL l0) := LimIs.of_mono (fun k r h => laws_FnPairsDigest.mono l0 k r h)
theorem laws_FnPairsDigest.fL_eq (l0 : List Int) : laws_FnPairsDigest.fL l0 = if (l0.length : Int) > 1048576 then (some true) else ((spec_DrawPairsDigest.fL l0).bind fun t266 => ((impl_PairsDigest.fL t266).bind fun t269 => ((spec_PairsDigest.fL t266).bind fun t270 => (if t269 = t270 then (if t269 < 0 then (if t269 = (-1) then ((impl_PairsValid.fL t266).bind fun t271 => (if t271 = true then (some false) else ((laws_alive.fL).bind fun t272 => (some t272)))) else (some false)) else (if (t266.length : Int) = 0 then (if t269 = 0 then ((laws_alive.fL).bind fun t273 => (some t273)) else (some false)) else ((some (([] : List (S29)) : List (S29))).bind fun y274 => (if y274.length + t266.length < 5864062014805 then ((some (y274 ++ t266 : List (S29))).bind fun y277 => (if 0 ≤ ((l0.length : Int) % (t266.length : Int)) then (if ((l0.length : Int) % (t266.length : Int)) < (t266.length : Int) then (if ((l0.length : Int) % (t266.length : Int)) < (y277.length : Int) then (if 0 ≤ (wrap64 ((t266.length : Int) / 2)) then (if (wrap64 ((t266.length : Int) / 2)) ≤ (t266.length : Int) then ((impl_PairsDigest.fL (t266.take ((wrap64 ((t266.length : Int) / 2)) : Int).toNat)).bind fun t286 => ((impl_PairsDigest.fL (t266.drop ((wrap64 ((t266.length : Int) / 2)) : Int).toNat)).bind fun t291 => (if (Int.tmod (wrap64 (t286 + t291)) 99991) = t269 then ((impl_PairsDigest.fL (y277.set (((l0.length : Int) % (t266.length : Int)) : Int).toNat (⟨(rd_T29 y277 ((l0.length : Int) % (t266.length : Int))).f0, Int.tmod (wrap64 ((wrap64 (((rd_T29 t266 ((l0.length : Int) % (t266.length : Int))).f1) + 1)) + ((l0.length : Int) % 999))) 1000⟩ : S29))).bind fun t292 => (if t292 = t269 then (some false) else (if 1 ≤ (t266.length : Int) then ((impl_PairsDigest.fL (t266.take 1)).bind fun t297 => (if 0 < (t266.length : Int) then ((impl_PairDigest.fL ((rd_T29 t266 0).f0) ((rd_T29 t266 0).f1)).bind fun t299 => (some (t297 == t299))) else (none))) else (none)))) else (some false)))) else (none)) else (none)) else (none)) else (none)) else (none))) else (none))))) else (some false))))) := by
  refine LimIs.unique (laws_FnPairsDigest.fL_is l0) ?_
  unfold laws_FnPairsDigest.f
  repeat' first
    | (with_reducible exact LimIs.const _)
    | (with_reducible exact impl_PairDigest.fL_is _ _)
    | (with_reducible exact impl_PairsDigest.fL_is _)
    | (with_reducible exact impl_PairsValid.fL_is _)
    | (with_reducible exact laws_alive.fL_is)
    | (with_reducible exact spec_DrawPairsDigest.fL_is _)
    | (with_reducible exact spec_PairsDigest.fL_is _)
    | (with_reducible refine LimIs.ite ?_ ?_)
    | (with_reducible refine LimIs.bind ?_ (fun _ => ?_))
end Go.Proofs.Ytfeeifefmenlmaa.PFnPairsDigest
