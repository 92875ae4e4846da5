-- Written by a program of this session, in the manner of the kit's print (wip/pp.py): functions and their contracts.
import Derived.Test.YtfeeifefmenlmaaPFnRealTimex0
import Derived.Test.YtfeeifefmenlmaaPFnRealTimex1
import Derived.Test.YtfeeifefmenlmaaPFnRealTimex8
import Derived.Test.YtfeeifefmenlmaaPFnRealTimex9
import Derived.Test.YtfeeifefmenlmaaPFnRealTimex10
import Derived.Test.YtfeeifefmenlmaaPFnRealTimex11
namespace Go.Proofs.Ytfeeifefmenlmaa.PFnRealTime
open Go.RowKit Go.Proofs.YtfeeifefmenlmaaW.PrintWords Go.Proofs.YtfeeifefmenlmaaW.PrintLast Go.Proofs.YtfeeifefmenlmaaW.PrintMore
attribute [local go_sem] binOp_leq_str binOp_gtr_str binOp_geq_str max2_int min2_int max_two min_two max_three min_three max_four min_four   -- for this text's walks alone
set_option linter.unusedVariables false
set_option linter.unusedSimpArgs false

/-! ### laws_FnRealTime: function 4 -/
mutual
def laws_FnRealTime.l0 : Nat → List (S42) → List Int → Bool → Bool → Int → Option (Bool)
  | 0, _, _, _, _, _ => none
  | k + 1, x3, x4, x5, x6, x7 => if x7 < (x4.length : Int) then (if x6 = true then (if 0 ≤ x7 then (if 0 ≤ (rd x4 x7) then (if (rd x4 x7) < (x3.length : Int) then ((impl_ResultValid.f k ((rd_T42 x3 (rd x4 x7)).f0) ((rd_T42 x3 (rd x4 x7)).f1) ((rd_T42 x3 (rd x4 x7)).f2.f0) ((rd_T42 x3 (rd x4 x7)).f2.f1) ((rd_T42 x3 (rd x4 x7)).f2.f2) ((rd_T42 x3 (rd x4 x7)).f2.f3) ((rd_T42 x3 (rd x4 x7)).f3) ((rd_T42 x3 (rd x4 x7)).f4) ((rd_T42 x3 (rd x4 x7)).f5)).bind fun t491 => (if t491 = true then (if x7 = 0 then (laws_FnRealTime.l0 k x3 x4 x5 true (wrap64 (x7 + 1))) else (if 0 ≤ (wrap64 (x7 - 1)) then (if (wrap64 (x7 - 1)) < (x4.length : Int) then (if 0 ≤ (rd x4 (wrap64 (x7 - 1))) then (if (rd x4 (wrap64 (x7 - 1))) < (x3.length : Int) then (laws_FnRealTime.l0 k x3 x4 x5 (decide (((rd_T42 x3 (rd x4 x7)).f4) ≥ ((rd_T42 x3 (rd x4 (wrap64 (x7 - 1)))).f4))) (wrap64 (x7 + 1))) else (none)) else (none)) else (none)) else (none))) else (laws_FnRealTime.l0 k x3 x4 x5 false (wrap64 (x7 + 1))))) else (none)) else (none)) else (none)) else (laws_FnRealTime.l0 k x3 x4 x5 false (wrap64 (x7 + 1)))) else (if x6 = true then (laws_FnRealTime.j1 k x3 x4 x5 (!x5)) else (laws_FnRealTime.j1 k x3 x4 x5 false))
def laws_FnRealTime.j1 : Nat → List (S42) → List Int → Bool → Bool → Option (Bool)
  | 0, _, _, _, _ => none
  | k + 1, x3, x4, x5, x84 => if x84 = true then (some false) else (if x5 = true then (laws_FnRealTime.j2 k x3 x4 ((x4.length : Int) == 0)) else (laws_FnRealTime.j2 k x3 x4 true))
def laws_FnRealTime.j2 : Nat → List (S42) → List Int → Bool → Option (Bool)
  | 0, _, _, _ => none
  | k + 1, x3, x4, x91 => if x91 = true then ((laws_alive.f k).bind fun t496 => (some t496)) else (if 0 ≤ (wrap64 ((x4.length : Int) - 1)) then (if (wrap64 ((x4.length : Int) - 1)) < (x4.length : Int) then ((some (([] : List (S42)) : List (S42))).bind fun y498 => (if 0 ≤ (rd x4 (wrap64 ((x4.length : Int) - 1))) then (if (rd x4 (wrap64 ((x4.length : Int) - 1))) ≤ (x3.length : Int) then ((some (x3.take ((rd x4 (wrap64 ((x4.length : Int) - 1))) : Int).toNat : List (S42))).bind fun y501 => (if y498.length + y501.length < 1759218604441 then ((some (y498 ++ y501 : List (S42))).bind fun y505 => (if 0 ≤ (wrap64 ((rd x4 (wrap64 ((x4.length : Int) - 1))) + 1)) then (if (wrap64 ((rd x4 (wrap64 ((x4.length : Int) - 1))) + 1)) ≤ (x3.length : Int) then ((some (x3.drop ((wrap64 ((rd x4 (wrap64 ((x4.length : Int) - 1))) + 1)) : Int).toNat : List (S42))).bind fun y508 => (if y505.length + y508.length < 1759218604441 then (laws_FnRealTime.l1 k x4 (rd x4 (wrap64 ((x4.length : Int) - 1))) (y505 ++ y508) (([] : List Int)) 0) else (none))) else (none)) else (none))) else (none))) else (none)) else (none))) else (none)) else (none))
def laws_FnRealTime.l1 : Nat → List Int → Int → List (S42) → List Int → Int → Option (Bool)
  | 0, _, _, _, _, _ => none
  | k + 1, x4, x8, x9, x10, x11 => if (wrap64 (x11 + 1)) < (x4.length : Int) then (if 0 ≤ x11 then (if x11 < (x4.length : Int) then (if (rd x4 x11) > x8 then (if x10.length < 17592186044416 then (laws_FnRealTime.l1 k x4 x8 x9 (x10 ++ [wrap64 ((rd x4 x11) - 1)]) (wrap64 (x11 + 1))) else (none)) else (if x10.length < 17592186044416 then (laws_FnRealTime.l1 k x4 x8 x9 (x10 ++ [rd x4 x11]) (wrap64 (x11 + 1))) else (none))) else (none)) else (none)) else ((impl_RealTime.f k x9 x10).bind fun t525 => (some t525))
end
def laws_FnRealTime.f (k : Nat) (l0 : List Int) : Option (Bool) := if (l0.length : Int) > 1048576 then (some true) else ((spec_DrawRealTime.f k l0).bind fun bt479 => ((impl_RealTime.f k bt479.1 bt479.2).bind fun t485 => ((spec_RealTime.f k bt479.1 bt479.2).bind fun t486 => (if (t485 != t486) = true then (some false) else ((impl_OrderValid.f k (bt479.1.length : Int) bt479.2).bind fun t487 => (if t487 = true then (laws_FnRealTime.l0 k bt479.1 bt479.2 t485 true 0) else (if t485 = true then (some false) else ((laws_alive.f k).bind fun t488 => (some t488)))))))))
theorem laws_FnRealTime.mono_l : ∀ k, (∀ y0 y1 y2 y3 y4, LeO (laws_FnRealTime.l0 k y0 y1 y2 y3 y4) (laws_FnRealTime.l0 (k + 1) y0 y1 y2 y3 y4)) ∧ (∀ y0 y1 y2 y3, LeO (laws_FnRealTime.j1 k y0 y1 y2 y3) (laws_FnRealTime.j1 (k + 1) y0 y1 y2 y3)) ∧ (∀ y0 y1 y2, LeO (laws_FnRealTime.j2 k y0 y1 y2) (laws_FnRealTime.j2 (k + 1) y0 y1 y2)) ∧ (∀ y0 y1 y2 y3 y4, LeO (laws_FnRealTime.l1 k y0 y1 y2 y3 y4) (laws_FnRealTime.l1 (k + 1) y0 y1 y2 y3 y4))
  | 0 => ⟨fun _ _ _ _ _ r h => by simp [laws_FnRealTime.l0] at h, fun _ _ _ _ r h => by simp [laws_FnRealTime.j1] at h, fun _ _ _ r h => by simp [laws_FnRealTime.j2] at h, fun _ _ _ _ _ r h => by simp [laws_FnRealTime.l1] at h⟩
  | k + 1 => by
    obtain ⟨ih0, ih1, ih2, ih3⟩ := laws_FnRealTime.mono_l k
    refine ⟨?_, ?_, ?_, ?_⟩
    · intro y0 y1 y2 y3 y4
      unfold laws_FnRealTime.l0
      repeat' first
      | (with_reducible exact ih0 _ _ _ _ _)
      | (with_reducible exact ih1 _ _ _ _)
      | (with_reducible exact ih2 _ _ _)
      | (with_reducible exact ih3 _ _ _ _ _)
      | (with_reducible exact impl_OrderValid.mono _ _ _)
      | (with_reducible exact impl_RealTime.mono _ _ _)
      | (with_reducible exact impl_ResultValid.mono _ _ _ _ _ _ _ _ _ _)
      | (with_reducible exact laws_alive.mono _)
      | (with_reducible exact spec_DrawRealTime.mono _ _)
      | (with_reducible exact spec_RealTime.mono _ _ _)
      | (with_reducible exact LeO.refl _)
      | (with_reducible exact LeO.none _)
      | (with_reducible refine LeO.ite ?_ ?_)
      | (with_reducible refine LeO.bind ?_ (fun _ => ?_))
      | exact ih0 _ _ _ _ _
      | exact ih1 _ _ _ _
      | exact ih2 _ _ _
      | exact ih3 _ _ _ _ _
      | exact impl_OrderValid.mono _ _ _
      | exact impl_RealTime.mono _ _ _
      | exact impl_ResultValid.mono _ _ _ _ _ _ _ _ _ _
      | exact laws_alive.mono _
      | exact spec_DrawRealTime.mono _ _
      | exact spec_RealTime.mono _ _ _
      | exact LeO.none _
      | refine LeO.ite ?_ ?_
      | refine LeO.bind ?_ (fun _ => ?_)
    · intro y0 y1 y2 y3
      unfold laws_FnRealTime.j1
      repeat' first
      | (with_reducible exact ih0 _ _ _ _ _)
      | (with_reducible exact ih1 _ _ _ _)
      | (with_reducible exact ih2 _ _ _)
      | (with_reducible exact ih3 _ _ _ _ _)
      | (with_reducible exact impl_OrderValid.mono _ _ _)
      | (with_reducible exact impl_RealTime.mono _ _ _)
      | (with_reducible exact impl_ResultValid.mono _ _ _ _ _ _ _ _ _ _)
      | (with_reducible exact laws_alive.mono _)
      | (with_reducible exact spec_DrawRealTime.mono _ _)
      | (with_reducible exact spec_RealTime.mono _ _ _)
      | (with_reducible exact LeO.refl _)
      | (with_reducible exact LeO.none _)
      | (with_reducible refine LeO.ite ?_ ?_)
      | (with_reducible refine LeO.bind ?_ (fun _ => ?_))
      | exact ih0 _ _ _ _ _
      | exact ih1 _ _ _ _
      | exact ih2 _ _ _
      | exact ih3 _ _ _ _ _
      | exact impl_OrderValid.mono _ _ _
      | exact impl_RealTime.mono _ _ _
      | exact impl_ResultValid.mono _ _ _ _ _ _ _ _ _ _
      | exact laws_alive.mono _
      | exact spec_DrawRealTime.mono _ _
      | exact spec_RealTime.mono _ _ _
      | exact LeO.none _
      | refine LeO.ite ?_ ?_
      | refine LeO.bind ?_ (fun _ => ?_)
    · intro y0 y1 y2
      unfold laws_FnRealTime.j2
      repeat' first
      | (with_reducible exact ih0 _ _ _ _ _)
      | (with_reducible exact ih1 _ _ _ _)
      | (with_reducible exact ih2 _ _ _)
      | (with_reducible exact ih3 _ _ _ _ _)
      | (with_reducible exact impl_OrderValid.mono _ _ _)
      | (with_reducible exact impl_RealTime.mono _ _ _)
      | (with_reducible exact impl_ResultValid.mono _ _ _ _ _ _ _ _ _ _)
      | (with_reducible exact laws_alive.mono _)
      | (with_reducible exact spec_DrawRealTime.mono _ _)
      | (with_reducible exact spec_RealTime.mono _ _ _)
      | (with_reducible exact LeO.refl _)
      | (with_reducible exact LeO.none _)
      | (with_reducible refine LeO.ite ?_ ?_)
      | (with_reducible refine LeO.bind ?_ (fun _ => ?_))
      | exact ih0 _ _ _ _ _
      | exact ih1 _ _ _ _
      | exact ih2 _ _ _
      | exact ih3 _ _ _ _ _
      | exact impl_OrderValid.mono _ _ _
      | exact impl_RealTime.mono _ _ _
      | exact impl_ResultValid.mono _ _ _ _ _ _ _ _ _ _
      | exact laws_alive.mono _
      | exact spec_DrawRealTime.mono _ _
      | exact spec_RealTime.mono _ _ _
      | exact LeO.none _
      | refine LeO.ite ?_ ?_
      | refine LeO.bind ?_ (fun _ => ?_)
    · intro y0 y1 y2 y3 y4
      unfold laws_FnRealTime.l1
      repeat' first
      | (with_reducible exact ih0 _ _ _ _ _)
      | (with_reducible exact ih1 _ _ _ _)
      | (with_reducible exact ih2 _ _ _)
      | (with_reducible exact ih3 _ _ _ _ _)
      | (with_reducible exact impl_OrderValid.mono _ _ _)
      | (with_reducible exact impl_RealTime.mono _ _ _)
      | (with_reducible exact impl_ResultValid.mono _ _ _ _ _ _ _ _ _ _)
      | (with_reducible exact laws_alive.mono _)
      | (with_reducible exact spec_DrawRealTime.mono _ _)
      | (with_reducible exact spec_RealTime.mono _ _ _)
      | (with_reducible exact LeO.refl _)
      | (with_reducible exact LeO.none _)
      | (with_reducible refine LeO.ite ?_ ?_)
      | (with_reducible refine LeO.bind ?_ (fun _ => ?_))
      | exact ih0 _ _ _ _ _
      | exact ih1 _ _ _ _
      | exact ih2 _ _ _
      | exact ih3 _ _ _ _ _
      | exact impl_OrderValid.mono _ _ _
      | exact impl_RealTime.mono _ _ _
      | exact impl_ResultValid.mono _ _ _ _ _ _ _ _ _ _
      | exact laws_alive.mono _
      | exact spec_DrawRealTime.mono _ _
      | exact spec_RealTime.mono _ _ _
      | exact LeO.none _
      | refine LeO.ite ?_ ?_
      | refine LeO.bind ?_ (fun _ => ?_)
theorem laws_FnRealTime.mono : ∀ a0 k, LeO (laws_FnRealTime.f k a0) (laws_FnRealTime.f (k + 1) a0) := by
  intro a0 k
  obtain ⟨ih0, ih1, ih2, ih3⟩ := laws_FnRealTime.mono_l k
  unfold laws_FnRealTime.f
  repeat' first
      | (with_reducible exact ih0 _ _ _ _ _)
      | (with_reducible exact ih1 _ _ _ _)
      | (with_reducible exact ih2 _ _ _)
      | (with_reducible exact ih3 _ _ _ _ _)
      | (with_reducible exact impl_OrderValid.mono _ _ _)
      | (with_reducible exact impl_RealTime.mono _ _ _)
      | (with_reducible exact impl_ResultValid.mono _ _ _ _ _ _ _ _ _ _)
      | (with_reducible exact laws_alive.mono _)
      | (with_reducible exact spec_DrawRealTime.mono _ _)
      | (with_reducible exact spec_RealTime.mono _ _ _)
      | (with_reducible exact LeO.refl _)
      | (with_reducible exact LeO.none _)
      | (with_reducible refine LeO.ite ?_ ?_)
      | (with_reducible refine LeO.bind ?_ (fun _ => ?_))
      | exact ih0 _ _ _ _ _
      | exact ih1 _ _ _ _
      | exact ih2 _ _ _
      | exact ih3 _ _ _ _ _
      | exact impl_OrderValid.mono _ _ _
      | exact impl_RealTime.mono _ _ _
      | exact impl_ResultValid.mono _ _ _ _ _ _ _ _ _ _
      | exact laws_alive.mono _
      | exact spec_DrawRealTime.mono _ _
      | exact spec_RealTime.mono _ _ _
      | exact LeO.none _
      | refine LeO.ite ?_ ?_
      | refine LeO.bind ?_ (fun _ => ?_)
def laws_FnRealTime.T13 : Bool × List (List Nat × List Nat) := (true, [([], []), ([0], [0]), ([1], [1]), ([1], [1]), ([1], [1]), ([3, 4, 1], [1, 3, 4]), ([5, 1], [1, 5]), ([2, 6, 1], [1, 2, 6]), ([7, 1], [1, 7]), ([8, 1, 1], [1, 8]), ([1, 9], [1, 9]), ([10, 9], [10]), ([11], [11]), ([12, 11], [11, 12]), ([13, 11, 11], [11, 13]), ([14], [14]), ([14], [14]), ([14], [14]), ([16, 17, 14], [14, 16, 17]), ([18, 14], [14, 18]), ([15, 19, 14], [14, 15, 19]), ([20, 14], [14, 20]), ([21, 14], [14, 21]), ([14], [14]), ([14], [14]), ([14], [14]), ([25, 14], [14, 25]), ([24, 26, 14], [14, 24, 26]), ([27, 14], [14, 27]), ([23, 28, 14], [14, 23, 28]), ([29, 14], [14, 29]), ([30, 14], [14, 30]), ([22, 31, 14], [14, 22, 31]), ([14, 32, 11], [11, 14, 32]), ([11, 33], [11, 33]), ([34, 14, 0, 1, 2, 3, 4, 5, 6, 7, 8, 9, 10, 11, 12, 13, 14, 15, 16, 17, 18, 19, 20, 21, 22, 23, 24, 25, 26, 27, 28, 29, 30, 31, 32, 33, 34], [0, 34])])
def laws_FnRealTime.B13 : List Nat := [0, 1, 3, 3, 3, 27, 59, 127, 255, 511, 1023, 2047, 4095, 8191, 16383, 32767, 32767, 32767, 229375, 491519, 1048575, 2097151, 4194303, 32767, 32767, 32767, 33587199, 117473279, 251691007, 528515071, 1065385983, 2139127807, 4294967295, 8589934591, 17179869183, 34359738367]
theorem laws_FnRealTime.tab13 : rtab .any (opsOf Try.f4 13) = laws_FnRealTime.T13 := by kernel_rfl
theorem laws_FnRealTime.bits13 : waitsOk laws_FnRealTime.T13.2 laws_FnRealTime.B13 = true := by kernel_rfl
theorem laws_FnRealTime.s0 {P0 Q : Prop} (B0 : P0) (h : P0 → Q := by (intro b0_; repeat (first | exact (Kd.R_reads' b0_).2.2 | (with_reducible refine Kd.C_alloc ?_ _) | (with_reducible refine Kd.C_drewN ?_ _) | (with_reducible refine Kd.C_drew ?_)))) : Q := h B0
theorem laws_FnRealTime.s1 {P0 Q : Prop} (B0 : P0) (h : P0 → Q := by (intro b0_; repeat (first | (with_reducible exact b0_) | (with_reducible refine Kd.C_alloc ?_ _) | (with_reducible refine Kd.C_drewN ?_ _) | (with_reducible refine Kd.C_drew ?_) | exact b0_))) : Q := h B0
def laws_FnRealTime.m0 : Array Bool := #[o_, o_, o_, o_, o_, o_, o_, o_, o_, o_, o_, o_, o_, o_, o_, o_, o_, o_, o_, o_, o_, o_, o_, o_, o_, o_, o_, o_, o_, o_, o_, o_, o_, o_, o_, o_]
def laws_FnRealTime.m1 : Array Bool := #[i_, o_, o_, o_, o_, o_, o_, o_, o_, o_, o_, o_, o_, o_, o_, o_, o_, o_, o_, o_, o_, o_, o_, o_, o_, o_, o_, o_, o_, o_, o_, o_, o_, o_, o_, o_]
def laws_FnRealTime.m2 : Array Bool := #[i_, i_, o_, o_, o_, o_, o_, o_, o_, o_, o_, o_, o_, o_, o_, o_, o_, o_, o_, o_, o_, o_, o_, o_, o_, o_, o_, o_, o_, o_, o_, o_, o_, o_, o_, o_]
def laws_FnRealTime.m3 : Array Bool := #[i_, i_, i_, o_, o_, o_, o_, o_, o_, o_, o_, o_, o_, o_, o_, o_, o_, o_, o_, o_, o_, o_, o_, o_, o_, o_, o_, o_, o_, o_, o_, o_, o_, o_, o_, o_]
def laws_FnRealTime.m4 : Array Bool := #[i_, i_, i_, i_, o_, o_, o_, o_, o_, o_, o_, o_, o_, o_, o_, o_, o_, o_, o_, o_, o_, o_, o_, o_, o_, o_, o_, o_, o_, o_, o_, o_, o_, o_, o_, o_]
def laws_FnRealTime.m5 : Array Bool := #[i_, i_, i_, i_, i_, o_, o_, o_, o_, o_, o_, o_, o_, o_, o_, o_, o_, o_, o_, o_, o_, o_, o_, o_, o_, o_, o_, o_, o_, o_, o_, o_, o_, o_, o_, o_]
def laws_FnRealTime.m6 : Array Bool := #[i_, i_, i_, i_, i_, i_, o_, o_, o_, o_, o_, o_, o_, o_, o_, o_, o_, o_, o_, o_, o_, o_, o_, o_, o_, o_, o_, o_, o_, o_, o_, o_, o_, o_, o_, o_]
def laws_FnRealTime.m7 : Array Bool := #[i_, i_, i_, i_, i_, i_, i_, o_, o_, o_, o_, o_, o_, o_, o_, o_, o_, o_, o_, o_, o_, o_, o_, o_, o_, o_, o_, o_, o_, o_, o_, o_, o_, o_, o_, o_]
def laws_FnRealTime.m8 : Array Bool := #[i_, i_, i_, i_, i_, i_, i_, i_, o_, o_, o_, o_, o_, o_, o_, o_, o_, o_, o_, o_, o_, o_, o_, o_, o_, o_, o_, o_, o_, o_, o_, o_, o_, o_, o_, o_]
def laws_FnRealTime.m9 : Array Bool := #[i_, i_, i_, i_, i_, i_, i_, i_, i_, o_, o_, o_, o_, o_, o_, o_, o_, o_, o_, o_, o_, o_, o_, o_, o_, o_, o_, o_, o_, o_, o_, o_, o_, o_, o_, o_]
def laws_FnRealTime.m10 : Array Bool := #[i_, i_, i_, i_, i_, i_, i_, i_, i_, i_, o_, o_, o_, o_, o_, o_, o_, o_, o_, o_, o_, o_, o_, o_, o_, o_, o_, o_, o_, o_, o_, o_, o_, o_, o_, o_]
def laws_FnRealTime.m11 : Array Bool := #[i_, i_, i_, i_, i_, i_, i_, i_, i_, i_, i_, o_, o_, o_, o_, o_, o_, o_, o_, o_, o_, o_, o_, o_, o_, o_, o_, o_, o_, o_, o_, o_, o_, o_, o_, o_]
def laws_FnRealTime.m12 : Array Bool := #[i_, i_, i_, i_, i_, i_, i_, i_, i_, i_, i_, i_, o_, o_, o_, o_, o_, o_, o_, o_, o_, o_, o_, o_, o_, o_, o_, o_, o_, o_, o_, o_, o_, o_, o_, o_]
def laws_FnRealTime.m13 : Array Bool := #[i_, i_, i_, i_, i_, i_, i_, i_, i_, i_, i_, i_, i_, o_, o_, o_, o_, o_, o_, o_, o_, o_, o_, o_, o_, o_, o_, o_, o_, o_, o_, o_, o_, o_, o_, o_]
def laws_FnRealTime.m14 : Array Bool := #[i_, i_, i_, i_, i_, i_, i_, i_, i_, i_, i_, i_, i_, i_, o_, o_, o_, o_, o_, o_, o_, o_, o_, o_, o_, o_, o_, o_, o_, o_, o_, o_, o_, o_, o_, o_]
def laws_FnRealTime.m15 : Array Bool := #[i_, i_, i_, i_, i_, i_, i_, i_, i_, i_, i_, i_, i_, i_, i_, o_, o_, o_, o_, o_, o_, o_, o_, o_, o_, o_, o_, o_, o_, o_, o_, o_, o_, o_, o_, o_]
def laws_FnRealTime.m16 : Array Bool := #[i_, i_, i_, i_, i_, i_, i_, i_, i_, i_, i_, i_, i_, i_, i_, i_, o_, o_, o_, o_, o_, o_, o_, o_, o_, o_, o_, o_, o_, o_, o_, o_, o_, o_, o_, o_]
def laws_FnRealTime.m17 : Array Bool := #[i_, i_, i_, i_, i_, i_, i_, i_, i_, i_, i_, i_, i_, i_, i_, i_, i_, o_, o_, o_, o_, o_, o_, o_, o_, o_, o_, o_, o_, o_, o_, o_, o_, o_, o_, o_]
def laws_FnRealTime.m18 : Array Bool := #[i_, i_, i_, i_, i_, i_, i_, i_, i_, i_, i_, i_, i_, i_, i_, i_, i_, i_, o_, o_, o_, o_, o_, o_, o_, o_, o_, o_, o_, o_, o_, o_, o_, o_, o_, o_]
def laws_FnRealTime.m19 : Array Bool := #[i_, i_, i_, i_, i_, i_, i_, i_, i_, i_, i_, i_, i_, i_, i_, i_, i_, i_, i_, o_, o_, o_, o_, o_, o_, o_, o_, o_, o_, o_, o_, o_, o_, o_, o_, o_]
def laws_FnRealTime.m20 : Array Bool := #[i_, i_, i_, i_, i_, i_, i_, i_, i_, i_, i_, i_, i_, i_, i_, i_, i_, i_, i_, i_, o_, o_, o_, o_, o_, o_, o_, o_, o_, o_, o_, o_, o_, o_, o_, o_]
def laws_FnRealTime.m21 : Array Bool := #[i_, i_, i_, i_, i_, i_, i_, i_, i_, i_, i_, i_, i_, i_, i_, i_, i_, i_, i_, i_, i_, o_, o_, o_, o_, o_, o_, o_, o_, o_, o_, o_, o_, o_, o_, o_]
def laws_FnRealTime.m22 : Array Bool := #[i_, i_, i_, i_, i_, i_, i_, i_, i_, i_, i_, i_, i_, i_, i_, i_, i_, i_, i_, i_, i_, i_, o_, o_, o_, o_, o_, o_, o_, o_, o_, o_, o_, o_, o_, o_]
def laws_FnRealTime.m23 : Array Bool := #[i_, i_, i_, i_, i_, i_, i_, i_, i_, i_, i_, i_, i_, i_, i_, i_, i_, i_, i_, i_, i_, i_, i_, o_, o_, o_, o_, o_, o_, o_, o_, o_, o_, o_, o_, o_]
def laws_FnRealTime.m24 : Array Bool := #[i_, i_, i_, i_, i_, i_, i_, i_, i_, i_, i_, i_, i_, i_, i_, i_, i_, i_, i_, i_, i_, i_, i_, i_, o_, o_, o_, o_, o_, o_, o_, o_, o_, o_, o_, o_]
def laws_FnRealTime.m25 : Array Bool := #[i_, i_, i_, i_, i_, i_, i_, i_, i_, i_, i_, i_, i_, i_, i_, i_, i_, i_, i_, i_, i_, i_, i_, i_, i_, o_, o_, o_, o_, o_, o_, o_, o_, o_, o_, o_]
def laws_FnRealTime.m26 : Array Bool := #[i_, i_, i_, i_, i_, i_, i_, i_, i_, i_, i_, i_, i_, i_, i_, i_, i_, i_, i_, i_, i_, i_, i_, i_, i_, i_, o_, o_, o_, o_, o_, o_, o_, o_, o_, o_]
def laws_FnRealTime.m27 : Array Bool := #[i_, i_, i_, i_, i_, i_, i_, i_, i_, i_, i_, i_, i_, i_, i_, i_, i_, i_, i_, i_, i_, i_, i_, i_, i_, i_, i_, o_, o_, o_, o_, o_, o_, o_, o_, o_]
def laws_FnRealTime.m28 : Array Bool := #[i_, i_, i_, i_, i_, i_, i_, i_, i_, i_, i_, i_, i_, i_, i_, i_, i_, i_, i_, i_, i_, i_, i_, i_, i_, i_, i_, i_, o_, o_, o_, o_, o_, o_, o_, o_]
def laws_FnRealTime.m29 : Array Bool := #[i_, i_, i_, i_, i_, i_, i_, i_, i_, i_, i_, i_, i_, i_, i_, i_, i_, i_, i_, i_, i_, i_, i_, i_, i_, i_, i_, i_, i_, o_, o_, o_, o_, o_, o_, o_]
def laws_FnRealTime.m30 : Array Bool := #[i_, i_, i_, i_, i_, i_, i_, i_, i_, i_, i_, i_, i_, i_, i_, i_, i_, i_, i_, i_, i_, i_, i_, i_, i_, i_, i_, i_, i_, i_, o_, o_, o_, o_, o_, o_]
def laws_FnRealTime.m31 : Array Bool := #[i_, i_, i_, i_, i_, i_, i_, i_, i_, i_, i_, i_, i_, i_, i_, i_, i_, i_, i_, i_, i_, i_, i_, i_, i_, i_, i_, i_, i_, i_, i_, o_, o_, o_, o_, o_]
def laws_FnRealTime.m32 : Array Bool := #[i_, i_, i_, i_, i_, i_, i_, i_, i_, i_, i_, i_, i_, i_, i_, i_, i_, i_, i_, i_, i_, i_, i_, i_, i_, i_, i_, i_, i_, i_, i_, i_, o_, o_, o_, o_]
def laws_FnRealTime.m33 : Array Bool := #[i_, i_, i_, i_, i_, i_, i_, i_, i_, i_, i_, i_, i_, i_, i_, i_, i_, i_, i_, i_, i_, i_, i_, i_, i_, i_, i_, i_, i_, i_, i_, i_, i_, o_, o_, o_]
def laws_FnRealTime.m34 : Array Bool := #[i_, i_, i_, i_, i_, i_, i_, i_, i_, i_, i_, i_, i_, i_, i_, i_, i_, i_, i_, i_, i_, i_, i_, i_, i_, i_, i_, i_, i_, i_, i_, i_, i_, i_, o_, o_]
def laws_FnRealTime.m35 : Array Bool := #[i_, i_, i_, i_, i_, i_, i_, i_, i_, i_, i_, i_, i_, i_, i_, i_, i_, i_, i_, i_, i_, i_, i_, i_, i_, i_, i_, i_, i_, i_, i_, i_, i_, i_, i_, o_]
def laws_FnRealTime.m36 : Array Bool := #[i_, i_, i_, i_, i_, i_, i_, i_, i_, i_, i_, i_, i_, i_, i_, i_, i_, i_, i_, i_, i_, i_, i_, i_, i_, i_, i_, i_, i_, i_, i_, i_, i_, i_, i_, i_]
def laws_FnRealTime.m37 : Array Bool := #[i_, i_, i_, i_, i_, i_, i_, i_, i_, i_, i_, i_, i_, i_, i_, i_, i_, i_, i_, o_, o_, o_, o_, i_, o_, o_, o_, o_, o_, o_, o_, o_, o_, o_, o_, o_]
def laws_FnRealTime.m38 : Array Bool := #[i_, i_, i_, i_, i_, i_, i_, i_, i_, i_, i_, i_, i_, i_, i_, i_, i_, i_, i_, o_, o_, o_, o_, i_, i_, o_, o_, o_, o_, o_, o_, o_, o_, o_, o_, o_]
def laws_FnRealTime.m39 : Array Bool := #[i_, i_, i_, i_, i_, i_, i_, i_, i_, i_, i_, i_, i_, i_, i_, i_, i_, i_, i_, o_, o_, o_, o_, i_, i_, i_, o_, o_, o_, o_, o_, o_, o_, o_, o_, o_]
def laws_FnRealTime.m40 : Array Bool := #[i_, i_, i_, i_, i_, i_, i_, i_, i_, i_, i_, i_, i_, i_, i_, i_, i_, i_, i_, o_, o_, o_, o_, i_, i_, i_, i_, o_, o_, o_, o_, o_, o_, o_, o_, o_]
def laws_FnRealTime.m41 : Array Bool := #[i_, i_, i_, i_, i_, i_, i_, i_, i_, i_, i_, i_, i_, i_, i_, i_, i_, i_, i_, o_, o_, o_, o_, i_, i_, i_, i_, i_, o_, o_, o_, o_, o_, o_, o_, o_]
def laws_FnRealTime.m42 : Array Bool := #[i_, i_, i_, i_, i_, i_, i_, i_, i_, i_, i_, i_, i_, i_, i_, i_, i_, i_, i_, i_, o_, o_, o_, i_, i_, i_, i_, i_, o_, o_, o_, o_, o_, o_, o_, o_]
def laws_FnRealTime.m43 : Array Bool := #[i_, i_, i_, i_, i_, i_, i_, i_, i_, i_, i_, i_, i_, i_, i_, i_, i_, i_, i_, i_, i_, o_, o_, i_, i_, i_, i_, i_, o_, o_, o_, o_, o_, o_, o_, o_]
def laws_FnRealTime.m44 : Array Bool := #[i_, i_, i_, i_, i_, i_, i_, i_, i_, i_, i_, i_, i_, i_, i_, i_, i_, i_, i_, i_, i_, i_, o_, i_, i_, i_, i_, i_, o_, o_, o_, o_, o_, o_, o_, o_]
set_option maxHeartbeats 8000000 in
set_option maxRecDepth 100000 in
theorem laws_FnRealTime.calls (k : Nat) (A0 : Option Addr) (c0 : Nat) (l0 : List Int) (r : Bool) (w : World) (hr0 : Kd.C (Kd.int .u8) w A0 l0.length l0) (hc0 : l0.length ≤ c0) (h : laws_FnRealTime.f k l0 = some r) (hrt : Aside0 (r = true)) :
  Calls Try.prog 4 #[.slice A0 l0.length c0] w fun e w' => e = .returned (.bool r) ∧ Below w.heap.size w w' := by
 have hu42 := Try.underlying42
 have HR0 := Aside0.mk hr0
 have HC0 := Aside0.mk hc0
 clear hr0 hc0
 have HB := Aside0.mk (Below.refl w.heap.size w)
 have H : (if (l0.length : Int) > 1048576 then (some true) else ((spec_DrawRealTime.f k l0).bind fun bt479 => ((impl_RealTime.f k bt479.1 bt479.2).bind fun t485 => ((spec_RealTime.f k bt479.1 bt479.2).bind fun t486 => (if (t485 != t486) = true then (some false) else ((impl_OrderValid.f k (bt479.1.length : Int) bt479.2).bind fun t487 => (if t487 = true then (laws_FnRealTime.l0 k bt479.1 bt479.2 t485 true 0) else (if t485 = true then (some false) else ((laws_alive.f k).bind fun t488 => (some t488)))))))))) = some r := h
 clear h
 by_cases c2 : (l0.length : Int) > 1048576
 ·
  rw [if_pos c2] at H
  have c2b0 : decide (1048576 < (l0.length : Int)) = true := decide_eq_true c2
  have c2b1 : decide (1048576 < l0.length) = true := decide_eq_true (by omega)
  clear c2
  obtain rfl := Option.some.inj H
  go_enter Try.func4, Try.ntmps4
  go_wp2
  go_ret
  exact ⟨fe, bp HB.out⟩
 ·
  rw [if_neg c2] at H
  have c2b0 : decide (1048576 < (l0.length : Int)) = false := decide_eq_false c2
  have c2b1 : decide (1048576 < l0.length) = false := decide_eq_false (by omega)
  clear c2
  replace H := Option.bind_eq_some_iff.mp H
  obtain ⟨⟨t479, t480⟩, A30, H⟩ := H
  replace H : ((impl_RealTime.f k t479 t480).bind fun t485 => ((spec_RealTime.f k t479 t480).bind fun t486 => (if (t485 != t486) = true then (some false) else ((impl_OrderValid.f k (t479.length : Int) t480).bind fun t487 => (if t487 = true then (laws_FnRealTime.l0 k t479 t480 t485 true 0) else (if t485 = true then (some false) else ((laws_alive.f k).bind fun t488 => (some t488)))))))) = some r := H
  have A3 := Aside0.mk A30
  clear A30
  replace H := Option.bind_eq_some_iff.mp H
  obtain ⟨t485, A40, H⟩ := H
  replace H : ((spec_RealTime.f k t479 t480).bind fun t486 => (if (t485 != t486) = true then (some false) else ((impl_OrderValid.f k (t479.length : Int) t480).bind fun t487 => (if t487 = true then (laws_FnRealTime.l0 k t479 t480 t485 true 0) else (if t485 = true then (some false) else ((laws_alive.f k).bind fun t488 => (some t488))))))) = some r := H
  have A4 := Aside0.mk A40
  clear A40
  replace H := Option.bind_eq_some_iff.mp H
  obtain ⟨t486, A50, H⟩ := H
  replace H : (if (t485 != t486) = true then (some false) else ((impl_OrderValid.f k (t479.length : Int) t480).bind fun t487 => (if t487 = true then (laws_FnRealTime.l0 k t479 t480 t485 true 0) else (if t485 = true then (some false) else ((laws_alive.f k).bind fun t488 => (some t488)))))) = some r := H
  have A5 := Aside0.mk A50
  clear A50
  by_cases c6 : (t485 != t486) = true
  ·
   rw [if_pos c6] at H
   have c6b0 : (t485 != t486) = true := c6
   (try (have c6b1 : decide (t485 = t486) = false := by simpa using c6))
   (try (have c6b2 : (t485 == t486) = false := by simpa using c6))
   (try (have c6b3 : ¬ (t485 = t486) := by simpa using c6))
   clear c6
   obtain rfl := Option.some.inj H
   exact absurd hrt.out (by simp)
  ·
   rw [if_neg c6] at H
   have c6b0 : (t485 != t486) = false := by simpa using c6
   (try (have c6b1 : decide (t485 = t486) = true := by simpa using c6))
   (try (have c6b2 : (t485 == t486) = true := by simpa using c6))
   clear c6
   replace H := Option.bind_eq_some_iff.mp H
   obtain ⟨t487, A70, H⟩ := H
   replace H : (if t487 = true then (laws_FnRealTime.l0 k t479 t480 t485 true 0) else (if t485 = true then (some false) else ((laws_alive.f k).bind fun t488 => (some t488)))) = some r := H
   have A7 := Aside0.mk A70
   clear A70
   by_cases c8 : t487 = true
   ·
    subst c8
    have H1 : (laws_FnRealTime.l0 k t479 t480 t485 true 0) = some r := by rw [if_pos rfl] at H; exact H
    clear H
    have H := H1
    clear H1
    have H' := Aside0.mk H
    clear H
    go_enter Try.func4, Try.ntmps4
    go_wp2_with (first | ((with_reducible refine gate_callee (f := 20) rfl ?_); refine gsl (some 18) rfl Try.func20 #[.slice A0 l0.length c0] rfl ?_; (with_reducible refine (spec_DrawRealTime.calls k _ _ l0 t479 t480 _ ?side1 ?side2 A3.out).mono ?_); (case side1 => exact cc HR0.out); (case side2 => exact HC0.out); rintro e w9 ⟨v481, v483, rfl, ho0, ho1, hb⟩; refine ⟨_, rfl, ?_⟩; have n0_ := Aside0.mk (Kd.R_lower ho0 (below_size (bp HB.out))); have n1_ := Aside0.mk (Kd.R_lower ho1 (below_size (bp HB.out))); have n2_ := an0 HB hb; clear HB; have HO482 := n0_; have HO484 := n1_; have HB := n2_; clear n0_ n1_ n2_; (try clear hb); (try clear hb2); (try clear hk); (try clear hi); (try clear ho0); (try clear ho1); obtain ⟨Ao10, co10, eo10⟩ := Kd.R_slice HO482.out; subst eo10; obtain ⟨Ao11, co11, eo11⟩ := Kd.R_slice HO484.out; subst eo11) | ((with_reducible refine gate_callee (f := 21) rfl ?_); refine gsl (some 23) rfl Try.func21 #[.slice Ao10 t479.length co10, .slice Ao11 t480.length co11] rfl ?_; (with_reducible refine (impl_RealTime.calls k _ _ t479 _ _ t480 t485 _ ?side1 ?side2 ?side3 ?side4 A4.out).mono ?_); (case side1 => exact laws_FnRealTime.s0 HO482.out); (case side2 => exact (Kd.R_reads' HO482.out).2.1); (case side3 => exact laws_FnRealTime.s0 HO484.out); (case side4 => exact (Kd.R_reads' HO484.out).2.1); rintro e w12 ⟨rfl, hb⟩; refine ⟨_, rfl, ?_⟩; have n0_ := Aside0.mk (Kd.R_below (kr HO482.out) hb); have n1_ := Aside0.mk (Kd.R_below (kr HO484.out) hb); have n2_ := an0 HB hb; clear HO482; clear HO484; clear HB; have HO482 := n0_; have HO484 := n1_; have HB := n2_; clear n0_ n1_ n2_; (try clear hb); (try clear hb2); (try clear hk); (try clear hi)) | ((with_reducible refine gate_callee (f := 22) rfl ?_); refine gsl (some 27) rfl Try.func22 #[.slice Ao10 t479.length co10, .slice Ao11 t480.length co11] rfl ?_; (with_reducible refine (spec_RealTime.calls k _ _ t479 _ _ t480 t486 _ ?side1 ?side2 ?side3 ?side4 A5.out).mono ?_); (case side1 => exact laws_FnRealTime.s0 HO482.out); (case side2 => exact (Kd.R_reads' HO482.out).2.1); (case side3 => exact laws_FnRealTime.s0 HO484.out); (case side4 => exact (Kd.R_reads' HO484.out).2.1); rintro e w13 ⟨rfl, hb⟩; refine ⟨_, rfl, ?_⟩; have n0_ := Aside0.mk (Kd.R_below (kr HO482.out) hb); have n1_ := Aside0.mk (Kd.R_below (kr HO484.out) hb); have n2_ := an0 HB hb; clear HO482; clear HO484; clear HB; have HO482 := n0_; have HO484 := n1_; have HB := n2_; clear n0_ n1_ n2_; (try clear hb); (try clear hb2); (try clear hk); (try clear hi)) | ((with_reducible refine gate_callee (f := 23) rfl ?_); refine gsl (some 32) rfl Try.func23 #[.int .i64 (t479.length : Int), .slice Ao11 t480.length co11] rfl ?_; (with_reducible refine (impl_OrderValid.calls k (t479.length : Int) _ _ t480 true _ ?side1 ?side2 A7.out).mono ?_); (case side1 => exact laws_FnRealTime.s0 HO484.out); (case side2 => exact (Kd.R_reads' HO484.out).2.1); rintro e w' ⟨rfl, ⟨nd, rfl⟩⟩; refine ⟨_, rfl, ?_⟩))
    go_loopg [6, 7] k (fun kq v6 v7 w' => ∃ (x6_1 : Bool) (x7_1 : Int), v6 = .bool x6_1 ∧ v7 = .int .i64 x7_1 ∧ Aside0 (laws_FnRealTime.l0 kq t479 t480 t485 x6_1 x7_1 = some r) ∧ Aside0 (kq ≤ k) ∧ Aside0 (Kd.R k42 42 w' w.heap.size (fun _ => True) (.slice Ao10 t479.length co10) t479) ∧ Aside0 (Kd.R (Kd.int .i64) 3 w' w.heap.size (fun _ => True) (.slice Ao11 t480.length co11) t480) ∧ Aside0 (Below w.heap.size w w'))
    case atStart => exact ⟨(true), (0), (by first | rfl | (simp; done) | (simp [*]; done) | (simp [bne_nil_, beq_nil_]; done)), (by first | rfl | (simp; done) | (simp [*]; done) | (simp [bne_nil_, beq_nil_]; done)), H', ⟨Nat.le_refl _⟩, ⟨by (with_reducible repeat (first | apply Kd.R_alloc | apply Kd.R_drewN | apply Kd.R_drew)); exact HO482.out⟩, ⟨by (with_reducible repeat (first | apply Kd.R_alloc | apply Kd.R_drewN | apply Kd.R_drew)); exact HO484.out⟩, ⟨bp HB.out⟩⟩
    case round =>
     clear H'
     try clear c2
     try clear c2b0
     try clear c2b1
     try clear p2
     try clear c4
     try clear c6
     try clear c6b0
     try clear c6b1
     try clear c6b2
     try clear p6
     try clear c8
     obtain ⟨x6_1, x7_1, rfl, rfl, HA, HK1, HO_3, HO_4, HB⟩ := hrel
     cases gk with
     | zero => exact absurd HA.out (by simp [laws_FnRealTime.l0])
     | succ k1 =>
      have H := HA.out
      clear HA
      simp only [laws_FnRealTime.l0] at H
      by_cases c14 : x7_1 < (t480.length : Int)
      ·
       rw [if_pos c14] at H
       have c14b0 : decide (x7_1 < (t480.length : Int)) = true := decide_eq_true c14
       clear c14
       by_cases c15 : x6_1 = true
       ·
        subst c15
        have H1 : (if 0 ≤ x7_1 then (if 0 ≤ (rd t480 x7_1) then (if (rd t480 x7_1) < (t479.length : Int) then ((impl_ResultValid.f k1 ((rd_T42 t479 (rd t480 x7_1)).f0) ((rd_T42 t479 (rd t480 x7_1)).f1) ((rd_T42 t479 (rd t480 x7_1)).f2.f0) ((rd_T42 t479 (rd t480 x7_1)).f2.f1) ((rd_T42 t479 (rd t480 x7_1)).f2.f2) ((rd_T42 t479 (rd t480 x7_1)).f2.f3) ((rd_T42 t479 (rd t480 x7_1)).f3) ((rd_T42 t479 (rd t480 x7_1)).f4) ((rd_T42 t479 (rd t480 x7_1)).f5)).bind fun t491 => (if t491 = true then (if x7_1 = 0 then (laws_FnRealTime.l0 k1 t479 t480 t485 true (wrap64 (x7_1 + 1))) else (if 0 ≤ (wrap64 (x7_1 - 1)) then (if (wrap64 (x7_1 - 1)) < (t480.length : Int) then (if 0 ≤ (rd t480 (wrap64 (x7_1 - 1))) then (if (rd t480 (wrap64 (x7_1 - 1))) < (t479.length : Int) then (laws_FnRealTime.l0 k1 t479 t480 t485 (decide (((rd_T42 t479 (rd t480 x7_1)).f4) ≥ ((rd_T42 t479 (rd t480 (wrap64 (x7_1 - 1)))).f4))) (wrap64 (x7_1 + 1))) else (none)) else (none)) else (none)) else (none))) else (laws_FnRealTime.l0 k1 t479 t480 t485 false (wrap64 (x7_1 + 1))))) else (none)) else (none)) else (none)) = some r := by rw [if_pos rfl] at H; exact H
        clear H
        have H := H1
        clear H1
        by_cases c16 : 0 ≤ x7_1
        ·
         rw [if_pos c16] at H
         have c16b0 : decide (0 ≤ x7_1) = true := decide_eq_true c16
         clear c16
         by_cases c17 : 0 ≤ (rd t480 x7_1)
         ·
          rw [if_pos c17] at H
          have c17b0 : decide (0 ≤ (rd t480 x7_1)) = true := decide_eq_true c17
          clear c17
          by_cases c18 : (rd t480 x7_1) < (t479.length : Int)
          ·
           rw [if_pos c18] at H
           have c18b0 : decide ((rd t480 x7_1) < (t479.length : Int)) = true := decide_eq_true c18
           clear c18
           replace H := Option.bind_eq_some_iff.mp H
           obtain ⟨t491, A190, H⟩ := H
           replace H : (if t491 = true then (if x7_1 = 0 then (laws_FnRealTime.l0 k1 t479 t480 t485 true (wrap64 (x7_1 + 1))) else (if 0 ≤ (wrap64 (x7_1 - 1)) then (if (wrap64 (x7_1 - 1)) < (t480.length : Int) then (if 0 ≤ (rd t480 (wrap64 (x7_1 - 1))) then (if (rd t480 (wrap64 (x7_1 - 1))) < (t479.length : Int) then (laws_FnRealTime.l0 k1 t479 t480 t485 (decide (((rd_T42 t479 (rd t480 x7_1)).f4) ≥ ((rd_T42 t479 (rd t480 (wrap64 (x7_1 - 1)))).f4))) (wrap64 (x7_1 + 1))) else (none)) else (none)) else (none)) else (none))) else (laws_FnRealTime.l0 k1 t479 t480 t485 false (wrap64 (x7_1 + 1)))) = some r := H
           have A19 := Aside0.mk A190
           clear A190
           by_cases c20 : t491 = true
           ·
            subst c20
            have H1 : (if x7_1 = 0 then (laws_FnRealTime.l0 k1 t479 t480 t485 true (wrap64 (x7_1 + 1))) else (if 0 ≤ (wrap64 (x7_1 - 1)) then (if (wrap64 (x7_1 - 1)) < (t480.length : Int) then (if 0 ≤ (rd t480 (wrap64 (x7_1 - 1))) then (if (rd t480 (wrap64 (x7_1 - 1))) < (t479.length : Int) then (laws_FnRealTime.l0 k1 t479 t480 t485 (decide (((rd_T42 t479 (rd t480 x7_1)).f4) ≥ ((rd_T42 t479 (rd t480 (wrap64 (x7_1 - 1)))).f4))) (wrap64 (x7_1 + 1))) else (none)) else (none)) else (none)) else (none))) = some r := by rw [if_pos rfl] at H; exact H
            clear H
            have H := H1
            clear H1
            by_cases c21 : x7_1 = 0
            ·
             rw [if_pos c21] at H
             have c21b0 : (x7_1 == 0) = true := beq_iff_eq.mpr c21
             have c21b1 : (x7_1 != 0) = false := bne_eq_false_iff_eq.mpr c21
             clear c21
             have H' := Aside0.mk H
             clear H
             try go_wp2
             have n0_ := Aside0.mk (Kd.R_drew HO_3.out)
             have n1_ := Aside0.mk (Kd.R_drew HO_4.out)
             have n2_ := Aside0.mk (below_drew1 HB.out)
             clear HO_3
             clear HO_4
             clear HB
             have HO_3 := n0_
             have HO_4 := n1_
             have HB := n2_
             clear n0_ n1_ n2_
             have p489 : 0 ≤ (x7_1 : Int) := of_decide_eq_true (by first | (with_reducible assumption) | assumption)
             have q489 : x7_1 < (t480.length : Int) := of_decide_eq_true (by first | (with_reducible assumption) | assumption)
             obtain ⟨ad489, e489, hx489_0⟩ := Kd.at_int (Kd.R_reads' HO_4.out).2.2 x7_1 p489 q489
             cases e489
             replace p489 := eq_true p489
             replace q489 := eq_true q489
             have p490 : 0 ≤ ((rd t480 x7_1) : Int) := of_decide_eq_true (by first | (with_reducible assumption) | assumption)
             have q490 : (rd t480 x7_1) < (t479.length : Int) := of_decide_eq_true (by first | (with_reducible assumption) | assumption)
             obtain ⟨ad490, e490, hx490_0, hx490_1, hx490_2, hx490_3, hx490_4, hx490_5, hx490_6, hx490_7, hx490_8⟩ := at_T42 (Kd.R_reads' HO_3.out).2.2 (rd t480 x7_1) p490 q490
             cases e490
             replace p490 := eq_true p490
             replace q490 := eq_true q490
             refine start_ (n := 36) (S := fun w' => w'.cell? (ad489.add (x7_1).toNat) = some (.int .i64 (rd t480 x7_1)) ∧ w'.cell? (ad490.add (((rd t480 x7_1)).toNat * 9)) = some (.int .i64 ((rd_T42 t479 (rd t480 x7_1)).f0)) ∧ w'.cell? ⟨(ad490.add (((rd t480 x7_1)).toNat * 9)).block, (ad490.add (((rd t480 x7_1)).toNat * 9)).off + 1, none⟩ = some (.int .i64 ((rd_T42 t479 (rd t480 x7_1)).f1)) ∧ w'.cell? ⟨(ad490.add (((rd t480 x7_1)).toNat * 9)).block, (ad490.add (((rd t480 x7_1)).toNat * 9)).off + 2, none⟩ = some (.int .i64 ((rd_T42 t479 (rd t480 x7_1)).f2.f0)) ∧ w'.cell? ⟨(ad490.add (((rd t480 x7_1)).toNat * 9)).block, (ad490.add (((rd t480 x7_1)).toNat * 9)).off + 3, none⟩ = some (.string ((rd_T42 t479 (rd t480 x7_1)).f2.f1)) ∧ w'.cell? ⟨(ad490.add (((rd t480 x7_1)).toNat * 9)).block, (ad490.add (((rd t480 x7_1)).toNat * 9)).off + 4, none⟩ = some (.int .i64 ((rd_T42 t479 (rd t480 x7_1)).f2.f2)) ∧ w'.cell? ⟨(ad490.add (((rd t480 x7_1)).toNat * 9)).block, (ad490.add (((rd t480 x7_1)).toNat * 9)).off + 5, none⟩ = some (.int .i64 ((rd_T42 t479 (rd t480 x7_1)).f2.f3)) ∧ w'.cell? ⟨(ad490.add (((rd t480 x7_1)).toNat * 9)).block, (ad490.add (((rd t480 x7_1)).toNat * 9)).off + 6, none⟩ = some (.int .i64 ((rd_T42 t479 (rd t480 x7_1)).f3)) ∧ w'.cell? ⟨(ad490.add (((rd t480 x7_1)).toNat * 9)).block, (ad490.add (((rd t480 x7_1)).toNat * 9)).off + 7, none⟩ = some (.int .i64 ((rd_T42 t479 (rd t480 x7_1)).f4)) ∧ w'.cell? ⟨(ad490.add (((rd t480 x7_1)).toNat * 9)).block, (ad490.add (((rd t480 x7_1)).toNat * 9)).off + 8, none⟩ = some (.int .i64 ((rd_T42 t479 (rd t480 x7_1)).f5))) (ds := []) laws_FnRealTime.m0 (by kernel_rfl) rfl rfl ⟨hx489_0, hx490_0, hx490_1, hx490_2, hx490_3, hx490_4, hx490_5, hx490_6, hx490_7, hx490_8⟩ (fun hHeld => ?_); refine with_tabW laws_FnRealTime.tab13 laws_FnRealTime.bits13 (fun HT_ HW_ => ?_)
             generalize wr.drew = w22 at HO_3 HO_4 HB hx489_0 hx490_0 hx490_1 hx490_2 hx490_3 hx490_4 hx490_5 hx490_6 hx490_7 hx490_8 hHeld ⊢
             refine pur (i := 0) (N := some 45) laws_FnRealTime.m1 rfl rfl HT_.out ?_
             refine pur (i := 1) (N := some 46) laws_FnRealTime.m2 rfl rfl HT_.out ?_
             refine pur (i := 2) (N := some 47) laws_FnRealTime.m3 rfl rfl HT_.out ?_
             refine pur (i := 3) (N := some 48) laws_FnRealTime.m4 rfl rfl HT_.out ?_
             refine pur (i := 4) (N := some 49) laws_FnRealTime.m5 rfl rfl HT_.out ?_
             refine pur (i := 5) (N := some 50) laws_FnRealTime.m6 rfl rfl HT_.out ?_
             refine take_ (i := 6) (N := some 51) (v := ?_) (a' := ?_) laws_FnRealTime.m7 rfl rfl (take_ofW HT_.out HW_.out (by kernel_rfl)) (fun _ _ _ h => h) (Or.inl ⟨by rfl, ?_⟩) hHeld ?_ ?_
             rotate_left
             ·
              rintro w' ⟨s0, s1, s2, s3, s4, s5, s6, s7, s8, s9⟩
              go_simp
              with_reducible rfl
             rotate_left; focus (simp only [Act.put, List.setIfInBounds_toArray, List.set_cons_zero, List.set_cons_succ, i64_w, i32_w]; rfl)
             refine pur (i := 7) (N := some 52) laws_FnRealTime.m8 rfl rfl HT_.out ?_
             refine take_ (i := 8) (N := some 53) (v := ?_) (a' := ?_) laws_FnRealTime.m9 rfl rfl (take_ofW HT_.out HW_.out (by kernel_rfl)) (fun _ _ _ h => h) (Or.inl ⟨by rfl, ?_⟩) hHeld ?_ ?_
             rotate_left
             ·
              rintro w' ⟨s0, s1, s2, s3, s4, s5, s6, s7, s8, s9⟩
              go_simp
              with_reducible rfl
             rotate_left; focus (simp only [Act.put, List.setIfInBounds_toArray, List.set_cons_zero, List.set_cons_succ, i64_w, i32_w]; rfl)
             refine one_ (i := 9) (N := some 54) laws_FnRealTime.m10 rfl rfl (one_of HT_.out (by kernel_rfl)) (by decide) (fun K hK => ?_)
             refine goes_ Try.func24 (by kernel_rfl) rfl #[.agg #[.int .i64 ((rd_T42 t479 (rd t480 x7_1)).f0), .int .i64 ((rd_T42 t479 (rd t480 x7_1)).f1), .int .i64 ((rd_T42 t479 (rd t480 x7_1)).f2.f0), .string ((rd_T42 t479 (rd t480 x7_1)).f2.f1), .int .i64 ((rd_T42 t479 (rd t480 x7_1)).f2.f2), .int .i64 ((rd_T42 t479 (rd t480 x7_1)).f2.f3), .int .i64 ((rd_T42 t479 (rd t480 x7_1)).f3), .int .i64 ((rd_T42 t479 (rd t480 x7_1)).f4), .int .i64 ((rd_T42 t479 (rd t480 x7_1)).f5)]] (by rfl) rfl rfl (by (try simp only [List.map_toArray, List.map_cons, List.map_nil]); first | done | rfl | (simp only [List.length_drop, List.length_take]; rfl)) ?_
             with_reducible refine (impl_ResultValid.calls k1 ((rd_T42 t479 (rd t480 x7_1)).f0) ((rd_T42 t479 (rd t480 x7_1)).f1) ((rd_T42 t479 (rd t480 x7_1)).f2.f0) ((rd_T42 t479 (rd t480 x7_1)).f2.f1) ((rd_T42 t479 (rd t480 x7_1)).f2.f2) ((rd_T42 t479 (rd t480 x7_1)).f2.f3) ((rd_T42 t479 (rd t480 x7_1)).f3) ((rd_T42 t479 (rd t480 x7_1)).f4) ((rd_T42 t479 (rd t480 x7_1)).f5) true _ A19.out).mono ?_
             rintro e w23 ⟨rfl, hb⟩
             have HS0_ := (hb.cell (World.block_lt_of_cell? _ _ (hHeld.1))).trans (hHeld.1)
             have HS1_ := (hb.cell (World.block_lt_of_cell? _ _ (hHeld.2.1))).trans (hHeld.2.1)
             have HS2_ := (hb.cell (World.block_lt_of_cell? _ _ (hHeld.2.2.1))).trans (hHeld.2.2.1)
             have HS3_ := (hb.cell (World.block_lt_of_cell? _ _ (hHeld.2.2.2.1))).trans (hHeld.2.2.2.1)
             have HS4_ := (hb.cell (World.block_lt_of_cell? _ _ (hHeld.2.2.2.2.1))).trans (hHeld.2.2.2.2.1)
             have HS5_ := (hb.cell (World.block_lt_of_cell? _ _ (hHeld.2.2.2.2.2.1))).trans (hHeld.2.2.2.2.2.1)
             have HS6_ := (hb.cell (World.block_lt_of_cell? _ _ (hHeld.2.2.2.2.2.2.1))).trans (hHeld.2.2.2.2.2.2.1)
             have HS7_ := (hb.cell (World.block_lt_of_cell? _ _ (hHeld.2.2.2.2.2.2.2.1))).trans (hHeld.2.2.2.2.2.2.2.1)
             have HS8_ := (hb.cell (World.block_lt_of_cell? _ _ (hHeld.2.2.2.2.2.2.2.2.1))).trans (hHeld.2.2.2.2.2.2.2.2.1)
             have HS9_ := (hb.cell (World.block_lt_of_cell? _ _ (hHeld.2.2.2.2.2.2.2.2.2))).trans (hHeld.2.2.2.2.2.2.2.2.2)
             refine ⟨_, rfl, ?_⟩
             have n0_ := Aside0.mk (Kd.R_below (kr HO_3.out) hb)
             have n1_ := Aside0.mk (Kd.R_below (kr HO_4.out) hb)
             have n2_ := an0 HB hb
             clear HO_3
             clear HO_4
             clear HB
             have HO_3 := n0_
             have HO_4 := n1_
             have HB := n2_
             clear n0_ n1_ n2_
             (try clear hb)
             (try clear hb2)
             (try clear hk)
             (try clear hi)
             refine hK.out _ _ ⟨HS0_, HS1_, HS2_, HS3_, HS4_, HS5_, HS6_, HS7_, HS8_, HS9_⟩ (fun hHeld => ?_)
             clear hK K
             refine norm_ (a' := ?_) ?_ ?_
             rotate_left
             ·
              show Act.put _ (some 54) _ = _
              simp only [Act.put, List.setIfInBounds_toArray, List.set_cons_zero, List.set_cons_succ, i64_w, i32_w]
              rfl
             refine pur (i := 10) (N := some 55) laws_FnRealTime.m11 rfl rfl HT_.out ?_
             refine pur (i := 11) (N := some 56) laws_FnRealTime.m12 rfl rfl HT_.out ?_
             refine pur (i := 12) (N := some 57) laws_FnRealTime.m13 rfl rfl HT_.out ?_
             refine pur (i := 13) (N := some 58) laws_FnRealTime.m14 rfl rfl HT_.out ?_
             refine pur (i := 14) (N := some 59) laws_FnRealTime.m15 rfl rfl HT_.out ?_
             refine puo (i := 15) (N := some 60) laws_FnRealTime.m16 rfl rfl HT_.out ?_
             refine puo (i := 16) (N := some 61) laws_FnRealTime.m17 rfl rfl HT_.out ?_
             refine puo (i := 17) (N := some 62) laws_FnRealTime.m18 rfl rfl HT_.out ?_
             refine puo (i := 18) (N := some 63) laws_FnRealTime.m19 rfl rfl HT_.out ?_
             refine puo (i := 19) (N := some 64) laws_FnRealTime.m20 rfl rfl HT_.out ?_
             refine puo (i := 20) (N := some 65) laws_FnRealTime.m21 rfl rfl HT_.out ?_
             refine puo (i := 21) (N := some 66) laws_FnRealTime.m22 rfl rfl HT_.out ?_
             refine puo (i := 22) (N := some 67) laws_FnRealTime.m23 rfl rfl HT_.out ?_
             refine puo (i := 23) (N := some 68) laws_FnRealTime.m24 rfl rfl HT_.out ?_
             refine puo (i := 24) (N := some 69) laws_FnRealTime.m25 rfl rfl HT_.out ?_
             refine puo (i := 25) (N := some 70) laws_FnRealTime.m26 rfl rfl HT_.out ?_
             refine puo (i := 26) (N := some 71) laws_FnRealTime.m27 rfl rfl HT_.out ?_
             refine puo (i := 27) (N := some 72) laws_FnRealTime.m28 rfl rfl HT_.out ?_
             refine puo (i := 28) (N := some 73) laws_FnRealTime.m29 rfl rfl HT_.out ?_
             refine puo (i := 29) (N := some 74) laws_FnRealTime.m30 rfl rfl HT_.out ?_
             refine puo (i := 30) (N := some 75) laws_FnRealTime.m31 rfl rfl HT_.out ?_
             refine puo (i := 31) (N := some 76) laws_FnRealTime.m32 rfl rfl HT_.out ?_
             refine puo (i := 32) (N := some 77) laws_FnRealTime.m33 rfl rfl HT_.out ?_
             refine pur (i := 33) (N := some 78) laws_FnRealTime.m34 rfl rfl HT_.out ?_
             refine pur (i := 34) (N := some 79) laws_FnRealTime.m35 rfl rfl HT_.out ?_
             refine pur (i := 35) (N := some 6) laws_FnRealTime.m36 rfl rfl HT_.out ?_
             refine done_ (done_of HT_.out (by kernel_rfl)) ?_
             try go_wp2
             go_roundg k1
             case measure => have := HK1.out; omega
             case rel => exact ⟨(true), (wrap64 (x7_1 + 1)), (by first | rfl | (simp; done) | (simp [*]; done) | (simp [bne_nil_, beq_nil_]; done)), (by first | rfl | (simp; done) | (simp [*]; done) | (simp [bne_nil_, beq_nil_]; done)), H', ⟨by have := HK1.out; omega⟩, ⟨by (with_reducible repeat (first | apply Kd.R_alloc | apply Kd.R_drewN | apply Kd.R_drew)); exact HO_3.out⟩, ⟨by (with_reducible repeat (first | apply Kd.R_alloc | apply Kd.R_drewN | apply Kd.R_drew)); exact HO_4.out⟩, ⟨bp HB.out⟩⟩
            ·
             rw [if_neg c21] at H
             have c21b0 : (x7_1 == 0) = false := beq_eq_false_iff_ne.mpr c21
             have c21b1 : (x7_1 != 0) = true := bne_iff_ne.mpr c21
             obtain ⟨ji24, hji24⟩ : ∃ j_ : Int, (wrap64 (x7_1 - 1)) = j_ := ⟨_, rfl⟩
             replace H : (if 0 ≤ (ji24) then (if (ji24) < (t480.length : Int) then (if 0 ≤ (rd t480 (ji24)) then (if (rd t480 (ji24)) < (t479.length : Int) then (laws_FnRealTime.l0 k1 t479 t480 t485 (decide (((rd_T42 t479 (rd t480 x7_1)).f4) ≥ ((rd_T42 t479 (rd t480 (ji24))).f4))) (wrap64 (x7_1 + 1))) else (none)) else (none)) else (none)) else (none)) = some r := by first | (rw [hji24] at H; exact H) | (simp only [hji24] at H ⊢; exact H)
             (try rw [hji24] at A19)
             have hji24w : (IntKind.i64.wrap (x7_1 - 1)) = ji24 := (i64_w _).trans hji24
             by_cases c25 : 0 ≤ (ji24)
             ·
              rw [if_pos c25] at H
              have c25b0 : decide (0 ≤ (ji24)) = true := decide_eq_true c25
              clear c25
              by_cases c26 : (ji24) < (t480.length : Int)
              ·
               rw [if_pos c26] at H
               have c26b0 : decide ((ji24) < (t480.length : Int)) = true := decide_eq_true c26
               clear c26
               by_cases c27 : 0 ≤ (rd t480 (ji24))
               ·
                rw [if_pos c27] at H
                have c27b0 : decide (0 ≤ (rd t480 (ji24))) = true := decide_eq_true c27
                clear c27
                by_cases c28 : (rd t480 (ji24)) < (t479.length : Int)
                ·
                 rw [if_pos c28] at H
                 have c28b0 : decide ((rd t480 (ji24)) < (t479.length : Int)) = true := decide_eq_true c28
                 clear c28
                 have H' := Aside0.mk H
                 clear H
                 try go_wp2
                 have n0_ := Aside0.mk (Kd.R_drew HO_3.out)
                 have n1_ := Aside0.mk (Kd.R_drew HO_4.out)
                 have n2_ := Aside0.mk (below_drew1 HB.out)
                 clear HO_3
                 clear HO_4
                 clear HB
                 have HO_3 := n0_
                 have HO_4 := n1_
                 have HB := n2_
                 clear n0_ n1_ n2_
                 have p489 : 0 ≤ (x7_1 : Int) := of_decide_eq_true (by first | (with_reducible assumption) | assumption)
                 have q489 : x7_1 < (t480.length : Int) := of_decide_eq_true (by first | (with_reducible assumption) | assumption)
                 obtain ⟨ad489, e489, hx489_0⟩ := Kd.at_int (Kd.R_reads' HO_4.out).2.2 x7_1 p489 q489
                 cases e489
                 replace p489 := eq_true p489
                 replace q489 := eq_true q489
                 have p490 : 0 ≤ ((rd t480 x7_1) : Int) := of_decide_eq_true (by first | (with_reducible assumption) | assumption)
                 have q490 : (rd t480 x7_1) < (t479.length : Int) := of_decide_eq_true (by first | (with_reducible assumption) | assumption)
                 obtain ⟨ad490, e490, hx490_0, hx490_1, hx490_2, hx490_3, hx490_4, hx490_5, hx490_6, hx490_7, hx490_8⟩ := at_T42 (Kd.R_reads' HO_3.out).2.2 (rd t480 x7_1) p490 q490
                 cases e490
                 replace p490 := eq_true p490
                 replace q490 := eq_true q490
                 have p492 : 0 ≤ (x7_1 : Int) := of_decide_eq_true (by first | (with_reducible assumption) | assumption)
                 have q492 : x7_1 < (t480.length : Int) := of_decide_eq_true (by first | (with_reducible assumption) | assumption)
                 obtain ⟨ad492, e492, hx492_0⟩ := Kd.at_int (Kd.R_reads' HO_4.out).2.2 x7_1 p492 q492
                 obtain rfl : ad489 = ad492 := (by injection e492)
                 replace p492 := eq_true p492
                 replace q492 := eq_true q492
                 have p493 : 0 ≤ ((rd t480 x7_1) : Int) := of_decide_eq_true (by first | (with_reducible assumption) | assumption)
                 have q493 : (rd t480 x7_1) < (t479.length : Int) := of_decide_eq_true (by first | (with_reducible assumption) | assumption)
                 obtain ⟨ad493, e493, hx493_0, hx493_1, hx493_2, hx493_3, hx493_4, hx493_5, hx493_6, hx493_7, hx493_8⟩ := at_T42 (Kd.R_reads' HO_3.out).2.2 (rd t480 x7_1) p493 q493
                 obtain rfl : ad490 = ad493 := (by injection e493)
                 replace p493 := eq_true p493
                 replace q493 := eq_true q493
                 have p494 : 0 ≤ ((ji24) : Int) := of_decide_eq_true (by first | (with_reducible assumption) | assumption)
                 have q494 : (ji24) < (t480.length : Int) := of_decide_eq_true (by first | (with_reducible assumption) | assumption)
                 obtain ⟨ad494, e494, hx494_0⟩ := Kd.at_int (Kd.R_reads' HO_4.out).2.2 (ji24) p494 q494
                 obtain rfl : ad489 = ad494 := (by injection e494)
                 replace p494 := eq_true p494
                 replace q494 := eq_true q494
                 have p495 : 0 ≤ ((rd t480 (ji24)) : Int) := of_decide_eq_true (by first | (with_reducible assumption) | assumption)
                 have q495 : (rd t480 (ji24)) < (t479.length : Int) := of_decide_eq_true (by first | (with_reducible assumption) | assumption)
                 obtain ⟨ad495, e495, hx495_0, hx495_1, hx495_2, hx495_3, hx495_4, hx495_5, hx495_6, hx495_7, hx495_8⟩ := at_T42 (Kd.R_reads' HO_3.out).2.2 (rd t480 (ji24)) p495 q495
                 obtain rfl : ad490 = ad495 := (by injection e495)
                 replace p495 := eq_true p495
                 replace q495 := eq_true q495
                 refine start_ (n := 36) (S := fun w' => w'.cell? (ad489.add (x7_1).toNat) = some (.int .i64 (rd t480 x7_1)) ∧ w'.cell? (ad490.add (((rd t480 x7_1)).toNat * 9)) = some (.int .i64 ((rd_T42 t479 (rd t480 x7_1)).f0)) ∧ w'.cell? ⟨(ad490.add (((rd t480 x7_1)).toNat * 9)).block, (ad490.add (((rd t480 x7_1)).toNat * 9)).off + 1, none⟩ = some (.int .i64 ((rd_T42 t479 (rd t480 x7_1)).f1)) ∧ w'.cell? ⟨(ad490.add (((rd t480 x7_1)).toNat * 9)).block, (ad490.add (((rd t480 x7_1)).toNat * 9)).off + 2, none⟩ = some (.int .i64 ((rd_T42 t479 (rd t480 x7_1)).f2.f0)) ∧ w'.cell? ⟨(ad490.add (((rd t480 x7_1)).toNat * 9)).block, (ad490.add (((rd t480 x7_1)).toNat * 9)).off + 3, none⟩ = some (.string ((rd_T42 t479 (rd t480 x7_1)).f2.f1)) ∧ w'.cell? ⟨(ad490.add (((rd t480 x7_1)).toNat * 9)).block, (ad490.add (((rd t480 x7_1)).toNat * 9)).off + 4, none⟩ = some (.int .i64 ((rd_T42 t479 (rd t480 x7_1)).f2.f2)) ∧ w'.cell? ⟨(ad490.add (((rd t480 x7_1)).toNat * 9)).block, (ad490.add (((rd t480 x7_1)).toNat * 9)).off + 5, none⟩ = some (.int .i64 ((rd_T42 t479 (rd t480 x7_1)).f2.f3)) ∧ w'.cell? ⟨(ad490.add (((rd t480 x7_1)).toNat * 9)).block, (ad490.add (((rd t480 x7_1)).toNat * 9)).off + 6, none⟩ = some (.int .i64 ((rd_T42 t479 (rd t480 x7_1)).f3)) ∧ w'.cell? ⟨(ad490.add (((rd t480 x7_1)).toNat * 9)).block, (ad490.add (((rd t480 x7_1)).toNat * 9)).off + 7, none⟩ = some (.int .i64 ((rd_T42 t479 (rd t480 x7_1)).f4)) ∧ w'.cell? ⟨(ad490.add (((rd t480 x7_1)).toNat * 9)).block, (ad490.add (((rd t480 x7_1)).toNat * 9)).off + 8, none⟩ = some (.int .i64 ((rd_T42 t479 (rd t480 x7_1)).f5)) ∧ w'.cell? (ad489.add (x7_1).toNat) = some (.int .i64 (rd t480 x7_1)) ∧ w'.cell? (ad490.add (((rd t480 x7_1)).toNat * 9)) = some (.int .i64 ((rd_T42 t479 (rd t480 x7_1)).f0)) ∧ w'.cell? ⟨(ad490.add (((rd t480 x7_1)).toNat * 9)).block, (ad490.add (((rd t480 x7_1)).toNat * 9)).off + 1, none⟩ = some (.int .i64 ((rd_T42 t479 (rd t480 x7_1)).f1)) ∧ w'.cell? ⟨(ad490.add (((rd t480 x7_1)).toNat * 9)).block, (ad490.add (((rd t480 x7_1)).toNat * 9)).off + 2, none⟩ = some (.int .i64 ((rd_T42 t479 (rd t480 x7_1)).f2.f0)) ∧ w'.cell? ⟨(ad490.add (((rd t480 x7_1)).toNat * 9)).block, (ad490.add (((rd t480 x7_1)).toNat * 9)).off + 3, none⟩ = some (.string ((rd_T42 t479 (rd t480 x7_1)).f2.f1)) ∧ w'.cell? ⟨(ad490.add (((rd t480 x7_1)).toNat * 9)).block, (ad490.add (((rd t480 x7_1)).toNat * 9)).off + 4, none⟩ = some (.int .i64 ((rd_T42 t479 (rd t480 x7_1)).f2.f2)) ∧ w'.cell? ⟨(ad490.add (((rd t480 x7_1)).toNat * 9)).block, (ad490.add (((rd t480 x7_1)).toNat * 9)).off + 5, none⟩ = some (.int .i64 ((rd_T42 t479 (rd t480 x7_1)).f2.f3)) ∧ w'.cell? ⟨(ad490.add (((rd t480 x7_1)).toNat * 9)).block, (ad490.add (((rd t480 x7_1)).toNat * 9)).off + 6, none⟩ = some (.int .i64 ((rd_T42 t479 (rd t480 x7_1)).f3)) ∧ w'.cell? ⟨(ad490.add (((rd t480 x7_1)).toNat * 9)).block, (ad490.add (((rd t480 x7_1)).toNat * 9)).off + 7, none⟩ = some (.int .i64 ((rd_T42 t479 (rd t480 x7_1)).f4)) ∧ w'.cell? ⟨(ad490.add (((rd t480 x7_1)).toNat * 9)).block, (ad490.add (((rd t480 x7_1)).toNat * 9)).off + 8, none⟩ = some (.int .i64 ((rd_T42 t479 (rd t480 x7_1)).f5)) ∧ w'.cell? (ad489.add ((ji24)).toNat) = some (.int .i64 (rd t480 (ji24))) ∧ w'.cell? (ad490.add (((rd t480 (ji24))).toNat * 9)) = some (.int .i64 ((rd_T42 t479 (rd t480 (ji24))).f0)) ∧ w'.cell? ⟨(ad490.add (((rd t480 (ji24))).toNat * 9)).block, (ad490.add (((rd t480 (ji24))).toNat * 9)).off + 1, none⟩ = some (.int .i64 ((rd_T42 t479 (rd t480 (ji24))).f1)) ∧ w'.cell? ⟨(ad490.add (((rd t480 (ji24))).toNat * 9)).block, (ad490.add (((rd t480 (ji24))).toNat * 9)).off + 2, none⟩ = some (.int .i64 ((rd_T42 t479 (rd t480 (ji24))).f2.f0)) ∧ w'.cell? ⟨(ad490.add (((rd t480 (ji24))).toNat * 9)).block, (ad490.add (((rd t480 (ji24))).toNat * 9)).off + 3, none⟩ = some (.string ((rd_T42 t479 (rd t480 (ji24))).f2.f1)) ∧ w'.cell? ⟨(ad490.add (((rd t480 (ji24))).toNat * 9)).block, (ad490.add (((rd t480 (ji24))).toNat * 9)).off + 4, none⟩ = some (.int .i64 ((rd_T42 t479 (rd t480 (ji24))).f2.f2)) ∧ w'.cell? ⟨(ad490.add (((rd t480 (ji24))).toNat * 9)).block, (ad490.add (((rd t480 (ji24))).toNat * 9)).off + 5, none⟩ = some (.int .i64 ((rd_T42 t479 (rd t480 (ji24))).f2.f3)) ∧ w'.cell? ⟨(ad490.add (((rd t480 (ji24))).toNat * 9)).block, (ad490.add (((rd t480 (ji24))).toNat * 9)).off + 6, none⟩ = some (.int .i64 ((rd_T42 t479 (rd t480 (ji24))).f3)) ∧ w'.cell? ⟨(ad490.add (((rd t480 (ji24))).toNat * 9)).block, (ad490.add (((rd t480 (ji24))).toNat * 9)).off + 7, none⟩ = some (.int .i64 ((rd_T42 t479 (rd t480 (ji24))).f4)) ∧ w'.cell? ⟨(ad490.add (((rd t480 (ji24))).toNat * 9)).block, (ad490.add (((rd t480 (ji24))).toNat * 9)).off + 8, none⟩ = some (.int .i64 ((rd_T42 t479 (rd t480 (ji24))).f5))) (ds := []) laws_FnRealTime.m0 (by kernel_rfl) rfl rfl ⟨hx489_0, hx490_0, hx490_1, hx490_2, hx490_3, hx490_4, hx490_5, hx490_6, hx490_7, hx490_8, hx492_0, hx493_0, hx493_1, hx493_2, hx493_3, hx493_4, hx493_5, hx493_6, hx493_7, hx493_8, hx494_0, hx495_0, hx495_1, hx495_2, hx495_3, hx495_4, hx495_5, hx495_6, hx495_7, hx495_8⟩ (fun hHeld => ?_); refine with_tabW laws_FnRealTime.tab13 laws_FnRealTime.bits13 (fun HT_ HW_ => ?_)
                 generalize wr.drew = w29 at HO_3 HO_4 HB hx489_0 hx490_0 hx490_1 hx490_2 hx490_3 hx490_4 hx490_5 hx490_6 hx490_7 hx490_8 hx492_0 hx493_0 hx493_1 hx493_2 hx493_3 hx493_4 hx493_5 hx493_6 hx493_7 hx493_8 hx494_0 hx495_0 hx495_1 hx495_2 hx495_3 hx495_4 hx495_5 hx495_6 hx495_7 hx495_8 hHeld ⊢
                 refine pur (i := 0) (N := some 45) laws_FnRealTime.m1 rfl rfl HT_.out ?_
                 refine pur (i := 1) (N := some 46) laws_FnRealTime.m2 rfl rfl HT_.out ?_
                 refine pur (i := 2) (N := some 47) laws_FnRealTime.m3 rfl rfl HT_.out ?_
                 refine pur (i := 3) (N := some 48) laws_FnRealTime.m4 rfl rfl HT_.out ?_
                 refine pur (i := 4) (N := some 49) laws_FnRealTime.m5 rfl rfl HT_.out ?_
                 refine pur (i := 5) (N := some 50) laws_FnRealTime.m6 rfl rfl HT_.out ?_
                 refine take_ (i := 6) (N := some 51) (v := ?_) (a' := ?_) laws_FnRealTime.m7 rfl rfl (take_ofW HT_.out HW_.out (by kernel_rfl)) (fun _ _ _ h => h) (Or.inl ⟨by rfl, ?_⟩) hHeld ?_ ?_
                 rotate_left
                 ·
                  rintro w' ⟨s0, s1, s2, s3, s4, s5, s6, s7, s8, s9, s10, s11, s12, s13, s14, s15, s16, s17, s18, s19, s20, s21, s22, s23, s24, s25, s26, s27, s28, s29⟩
                  go_simp
                  with_reducible rfl
                 rotate_left; focus (simp only [Act.put, List.setIfInBounds_toArray, List.set_cons_zero, List.set_cons_succ, i64_w, i32_w]; rfl)
                 refine pur (i := 7) (N := some 52) laws_FnRealTime.m8 rfl rfl HT_.out ?_
                 refine take_ (i := 8) (N := some 53) (v := ?_) (a' := ?_) laws_FnRealTime.m9 rfl rfl (take_ofW HT_.out HW_.out (by kernel_rfl)) (fun _ _ _ h => h) (Or.inl ⟨by rfl, ?_⟩) hHeld ?_ ?_
                 rotate_left
                 ·
                  rintro w' ⟨s0, s1, s2, s3, s4, s5, s6, s7, s8, s9, s10, s11, s12, s13, s14, s15, s16, s17, s18, s19, s20, s21, s22, s23, s24, s25, s26, s27, s28, s29⟩
                  go_simp
                  with_reducible rfl
                 rotate_left; focus (simp only [Act.put, List.setIfInBounds_toArray, List.set_cons_zero, List.set_cons_succ, i64_w, i32_w]; rfl)
                 refine one_ (i := 9) (N := some 54) laws_FnRealTime.m10 rfl rfl (one_of HT_.out (by kernel_rfl)) (by decide) (fun K hK => ?_)
                 refine goes_ Try.func24 (by kernel_rfl) rfl #[.agg #[.int .i64 ((rd_T42 t479 (rd t480 x7_1)).f0), .int .i64 ((rd_T42 t479 (rd t480 x7_1)).f1), .int .i64 ((rd_T42 t479 (rd t480 x7_1)).f2.f0), .string ((rd_T42 t479 (rd t480 x7_1)).f2.f1), .int .i64 ((rd_T42 t479 (rd t480 x7_1)).f2.f2), .int .i64 ((rd_T42 t479 (rd t480 x7_1)).f2.f3), .int .i64 ((rd_T42 t479 (rd t480 x7_1)).f3), .int .i64 ((rd_T42 t479 (rd t480 x7_1)).f4), .int .i64 ((rd_T42 t479 (rd t480 x7_1)).f5)]] (by rfl) rfl rfl (by (try simp only [List.map_toArray, List.map_cons, List.map_nil]); first | done | rfl | (simp only [List.length_drop, List.length_take]; rfl)) ?_
                 with_reducible refine (impl_ResultValid.calls k1 ((rd_T42 t479 (rd t480 x7_1)).f0) ((rd_T42 t479 (rd t480 x7_1)).f1) ((rd_T42 t479 (rd t480 x7_1)).f2.f0) ((rd_T42 t479 (rd t480 x7_1)).f2.f1) ((rd_T42 t479 (rd t480 x7_1)).f2.f2) ((rd_T42 t479 (rd t480 x7_1)).f2.f3) ((rd_T42 t479 (rd t480 x7_1)).f3) ((rd_T42 t479 (rd t480 x7_1)).f4) ((rd_T42 t479 (rd t480 x7_1)).f5) true _ A19.out).mono ?_
                 rintro e w30 ⟨rfl, hb⟩
                 have HS0_ := (hb.cell (World.block_lt_of_cell? _ _ (hHeld.1))).trans (hHeld.1)
                 have HS1_ := (hb.cell (World.block_lt_of_cell? _ _ (hHeld.2.1))).trans (hHeld.2.1)
                 have HS2_ := (hb.cell (World.block_lt_of_cell? _ _ (hHeld.2.2.1))).trans (hHeld.2.2.1)
                 have HS3_ := (hb.cell (World.block_lt_of_cell? _ _ (hHeld.2.2.2.1))).trans (hHeld.2.2.2.1)
                 have HS4_ := (hb.cell (World.block_lt_of_cell? _ _ (hHeld.2.2.2.2.1))).trans (hHeld.2.2.2.2.1)
                 have HS5_ := (hb.cell (World.block_lt_of_cell? _ _ (hHeld.2.2.2.2.2.1))).trans (hHeld.2.2.2.2.2.1)
                 have HS6_ := (hb.cell (World.block_lt_of_cell? _ _ (hHeld.2.2.2.2.2.2.1))).trans (hHeld.2.2.2.2.2.2.1)
                 have HS7_ := (hb.cell (World.block_lt_of_cell? _ _ (hHeld.2.2.2.2.2.2.2.1))).trans (hHeld.2.2.2.2.2.2.2.1)
                 have HS8_ := (hb.cell (World.block_lt_of_cell? _ _ (hHeld.2.2.2.2.2.2.2.2.1))).trans (hHeld.2.2.2.2.2.2.2.2.1)
                 have HS9_ := (hb.cell (World.block_lt_of_cell? _ _ (hHeld.2.2.2.2.2.2.2.2.2.1))).trans (hHeld.2.2.2.2.2.2.2.2.2.1)
                 have HS10_ := (hb.cell (World.block_lt_of_cell? _ _ (hHeld.2.2.2.2.2.2.2.2.2.2.1))).trans (hHeld.2.2.2.2.2.2.2.2.2.2.1)
                 have HS11_ := (hb.cell (World.block_lt_of_cell? _ _ (hHeld.2.2.2.2.2.2.2.2.2.2.2.1))).trans (hHeld.2.2.2.2.2.2.2.2.2.2.2.1)
                 have HS12_ := (hb.cell (World.block_lt_of_cell? _ _ (hHeld.2.2.2.2.2.2.2.2.2.2.2.2.1))).trans (hHeld.2.2.2.2.2.2.2.2.2.2.2.2.1)
                 have HS13_ := (hb.cell (World.block_lt_of_cell? _ _ (hHeld.2.2.2.2.2.2.2.2.2.2.2.2.2.1))).trans (hHeld.2.2.2.2.2.2.2.2.2.2.2.2.2.1)
                 have HS14_ := (hb.cell (World.block_lt_of_cell? _ _ (hHeld.2.2.2.2.2.2.2.2.2.2.2.2.2.2.1))).trans (hHeld.2.2.2.2.2.2.2.2.2.2.2.2.2.2.1)
                 have HS15_ := (hb.cell (World.block_lt_of_cell? _ _ (hHeld.2.2.2.2.2.2.2.2.2.2.2.2.2.2.2.1))).trans (hHeld.2.2.2.2.2.2.2.2.2.2.2.2.2.2.2.1)
                 have HS16_ := (hb.cell (World.block_lt_of_cell? _ _ (hHeld.2.2.2.2.2.2.2.2.2.2.2.2.2.2.2.2.1))).trans (hHeld.2.2.2.2.2.2.2.2.2.2.2.2.2.2.2.2.1)
                 have HS17_ := (hb.cell (World.block_lt_of_cell? _ _ (hHeld.2.2.2.2.2.2.2.2.2.2.2.2.2.2.2.2.2.1))).trans (hHeld.2.2.2.2.2.2.2.2.2.2.2.2.2.2.2.2.2.1)
                 have HS18_ := (hb.cell (World.block_lt_of_cell? _ _ (hHeld.2.2.2.2.2.2.2.2.2.2.2.2.2.2.2.2.2.2.1))).trans (hHeld.2.2.2.2.2.2.2.2.2.2.2.2.2.2.2.2.2.2.1)
                 have HS19_ := (hb.cell (World.block_lt_of_cell? _ _ (hHeld.2.2.2.2.2.2.2.2.2.2.2.2.2.2.2.2.2.2.2.1))).trans (hHeld.2.2.2.2.2.2.2.2.2.2.2.2.2.2.2.2.2.2.2.1)
                 have HS20_ := (hb.cell (World.block_lt_of_cell? _ _ (hHeld.2.2.2.2.2.2.2.2.2.2.2.2.2.2.2.2.2.2.2.2.1))).trans (hHeld.2.2.2.2.2.2.2.2.2.2.2.2.2.2.2.2.2.2.2.2.1)
                 have HS21_ := (hb.cell (World.block_lt_of_cell? _ _ (hHeld.2.2.2.2.2.2.2.2.2.2.2.2.2.2.2.2.2.2.2.2.2.1))).trans (hHeld.2.2.2.2.2.2.2.2.2.2.2.2.2.2.2.2.2.2.2.2.2.1)
                 have HS22_ := (hb.cell (World.block_lt_of_cell? _ _ (hHeld.2.2.2.2.2.2.2.2.2.2.2.2.2.2.2.2.2.2.2.2.2.2.1))).trans (hHeld.2.2.2.2.2.2.2.2.2.2.2.2.2.2.2.2.2.2.2.2.2.2.1)
                 have HS23_ := (hb.cell (World.block_lt_of_cell? _ _ (hHeld.2.2.2.2.2.2.2.2.2.2.2.2.2.2.2.2.2.2.2.2.2.2.2.1))).trans (hHeld.2.2.2.2.2.2.2.2.2.2.2.2.2.2.2.2.2.2.2.2.2.2.2.1)
                 have HS24_ := (hb.cell (World.block_lt_of_cell? _ _ (hHeld.2.2.2.2.2.2.2.2.2.2.2.2.2.2.2.2.2.2.2.2.2.2.2.2.1))).trans (hHeld.2.2.2.2.2.2.2.2.2.2.2.2.2.2.2.2.2.2.2.2.2.2.2.2.1)
                 have HS25_ := (hb.cell (World.block_lt_of_cell? _ _ (hHeld.2.2.2.2.2.2.2.2.2.2.2.2.2.2.2.2.2.2.2.2.2.2.2.2.2.1))).trans (hHeld.2.2.2.2.2.2.2.2.2.2.2.2.2.2.2.2.2.2.2.2.2.2.2.2.2.1)
                 have HS26_ := (hb.cell (World.block_lt_of_cell? _ _ (hHeld.2.2.2.2.2.2.2.2.2.2.2.2.2.2.2.2.2.2.2.2.2.2.2.2.2.2.1))).trans (hHeld.2.2.2.2.2.2.2.2.2.2.2.2.2.2.2.2.2.2.2.2.2.2.2.2.2.2.1)
                 have HS27_ := (hb.cell (World.block_lt_of_cell? _ _ (hHeld.2.2.2.2.2.2.2.2.2.2.2.2.2.2.2.2.2.2.2.2.2.2.2.2.2.2.2.1))).trans (hHeld.2.2.2.2.2.2.2.2.2.2.2.2.2.2.2.2.2.2.2.2.2.2.2.2.2.2.2.1)
                 have HS28_ := (hb.cell (World.block_lt_of_cell? _ _ (hHeld.2.2.2.2.2.2.2.2.2.2.2.2.2.2.2.2.2.2.2.2.2.2.2.2.2.2.2.2.1))).trans (hHeld.2.2.2.2.2.2.2.2.2.2.2.2.2.2.2.2.2.2.2.2.2.2.2.2.2.2.2.2.1)
                 have HS29_ := (hb.cell (World.block_lt_of_cell? _ _ (hHeld.2.2.2.2.2.2.2.2.2.2.2.2.2.2.2.2.2.2.2.2.2.2.2.2.2.2.2.2.2))).trans (hHeld.2.2.2.2.2.2.2.2.2.2.2.2.2.2.2.2.2.2.2.2.2.2.2.2.2.2.2.2.2)
                 refine ⟨_, rfl, ?_⟩
                 have n0_ := Aside0.mk (Kd.R_below (kr HO_3.out) hb)
                 have n1_ := Aside0.mk (Kd.R_below (kr HO_4.out) hb)
                 have n2_ := an0 HB hb
                 clear HO_3
                 clear HO_4
                 clear HB
                 have HO_3 := n0_
                 have HO_4 := n1_
                 have HB := n2_
                 clear n0_ n1_ n2_
                 (try clear hb)
                 (try clear hb2)
                 (try clear hk)
                 (try clear hi)
                 refine hK.out _ _ ⟨HS0_, HS1_, HS2_, HS3_, HS4_, HS5_, HS6_, HS7_, HS8_, HS9_, HS10_, HS11_, HS12_, HS13_, HS14_, HS15_, HS16_, HS17_, HS18_, HS19_, HS20_, HS21_, HS22_, HS23_, HS24_, HS25_, HS26_, HS27_, HS28_, HS29_⟩ (fun hHeld => ?_)
                 clear hK K
                 refine norm_ (a' := ?_) ?_ ?_
                 rotate_left
                 ·
                  show Act.put _ (some 54) _ = _
                  simp only [Act.put, List.setIfInBounds_toArray, List.set_cons_zero, List.set_cons_succ, i64_w, i32_w]
                  rfl
                 refine pur (i := 10) (N := some 55) laws_FnRealTime.m11 rfl rfl HT_.out ?_
                 refine pur (i := 11) (N := some 56) laws_FnRealTime.m12 rfl rfl HT_.out ?_
                 refine pur (i := 12) (N := some 57) laws_FnRealTime.m13 rfl rfl HT_.out ?_
                 refine pur (i := 13) (N := some 58) laws_FnRealTime.m14 rfl rfl HT_.out ?_
                 refine pur (i := 14) (N := some 59) laws_FnRealTime.m15 rfl rfl HT_.out ?_
                 refine pur (i := 15) (N := some 60) laws_FnRealTime.m16 rfl rfl HT_.out ?_
                 refine pur (i := 16) (N := some 61) laws_FnRealTime.m17 rfl rfl HT_.out ?_
                 refine pur (i := 17) (N := some 62) laws_FnRealTime.m18 rfl rfl HT_.out ?_
                 refine pur (i := 18) (N := some 63) laws_FnRealTime.m19 rfl rfl HT_.out ?_
                 refine pur (i := 23) (N := some 68) laws_FnRealTime.m37 rfl rfl HT_.out ?_
                 refine pur (i := 24) (N := some 69) laws_FnRealTime.m38 rfl rfl HT_.out ?_
                 refine pur (i := 25) (N := some 70) laws_FnRealTime.m39 rfl rfl HT_.out ?_
                 refine pur (i := 26) (N := some 71) laws_FnRealTime.m40 rfl rfl HT_.out ?_
                 refine pur (i := 27) (N := some 72) laws_FnRealTime.m41 rfl rfl HT_.out ?_
                 refine take_ (i := 19) (N := some 64) (v := ?_) (a' := ?_) laws_FnRealTime.m42 rfl rfl (take_ofW HT_.out HW_.out (by kernel_rfl)) (fun _ _ _ h => h) (Or.inl ⟨by rfl, ?_⟩) hHeld ?_ ?_
                 rotate_left
                 ·
                  rintro w' ⟨s0, s1, s2, s3, s4, s5, s6, s7, s8, s9, s10, s11, s12, s13, s14, s15, s16, s17, s18, s19, s20, s21, s22, s23, s24, s25, s26, s27, s28, s29⟩
                  go_simp
                  with_reducible rfl
                 rotate_left; focus (simp only [Act.put, List.setIfInBounds_toArray, List.set_cons_zero, List.set_cons_succ, i64_w, i32_w]; rfl)
                 refine pur (i := 20) (N := some 65) laws_FnRealTime.m43 rfl rfl HT_.out ?_
                 refine pur (i := 21) (N := some 66) laws_FnRealTime.m44 rfl rfl HT_.out ?_
                 refine take_ (i := 22) (N := some 67) (v := ?_) (a' := ?_) laws_FnRealTime.m28 rfl rfl (take_ofW HT_.out HW_.out (by kernel_rfl)) (fun _ _ _ h => h) (Or.inl ⟨by rfl, ?_⟩) hHeld ?_ ?_
                 rotate_left
                 ·
                  rintro w' ⟨s0, s1, s2, s3, s4, s5, s6, s7, s8, s9, s10, s11, s12, s13, s14, s15, s16, s17, s18, s19, s20, s21, s22, s23, s24, s25, s26, s27, s28, s29⟩
                  go_simp
                  with_reducible rfl
                 rotate_left; focus (simp only [Act.put, List.setIfInBounds_toArray, List.set_cons_zero, List.set_cons_succ, i64_w, i32_w]; rfl)
                 refine take_ (i := 28) (N := some 73) (v := ?_) (a' := ?_) laws_FnRealTime.m29 rfl rfl (take_ofW HT_.out HW_.out (by kernel_rfl)) (fun _ _ _ h => h) (Or.inl ⟨by rfl, ?_⟩) hHeld ?_ ?_
                 rotate_left
                 ·
                  rintro w' ⟨s0, s1, s2, s3, s4, s5, s6, s7, s8, s9, s10, s11, s12, s13, s14, s15, s16, s17, s18, s19, s20, s21, s22, s23, s24, s25, s26, s27, s28, s29⟩
                  go_simp
                  with_reducible rfl
                 rotate_left; focus (simp only [Act.put, List.setIfInBounds_toArray, List.set_cons_zero, List.set_cons_succ, i64_w, i32_w]; rfl)
                 refine pur (i := 29) (N := some 74) laws_FnRealTime.m30 rfl rfl HT_.out ?_
                 refine pur (i := 30) (N := some 75) laws_FnRealTime.m31 rfl rfl HT_.out ?_
                 refine take_ (i := 31) (N := some 76) (v := ?_) (a' := ?_) laws_FnRealTime.m32 rfl rfl (take_ofW HT_.out HW_.out (by kernel_rfl)) (fun _ _ _ h => h) (Or.inl ⟨by rfl, ?_⟩) hHeld ?_ ?_
                 rotate_left
                 ·
                  rintro w' ⟨s0, s1, s2, s3, s4, s5, s6, s7, s8, s9, s10, s11, s12, s13, s14, s15, s16, s17, s18, s19, s20, s21, s22, s23, s24, s25, s26, s27, s28, s29⟩
                  go_simp
                  with_reducible rfl
                 rotate_left; focus (simp only [Act.put, List.setIfInBounds_toArray, List.set_cons_zero, List.set_cons_succ, i64_w, i32_w]; rfl)
                 refine pur (i := 32) (N := some 77) laws_FnRealTime.m33 rfl rfl HT_.out ?_
                 refine pur (i := 33) (N := some 78) laws_FnRealTime.m34 rfl rfl HT_.out ?_
                 refine pur (i := 34) (N := some 79) laws_FnRealTime.m35 rfl rfl HT_.out ?_
                 refine pur (i := 35) (N := some 6) laws_FnRealTime.m36 rfl rfl HT_.out ?_
                 refine done_ (done_of HT_.out (by kernel_rfl)) ?_
                 try go_wp2
                 go_roundg k1
                 case measure => have := HK1.out; omega
                 case rel => exact ⟨(decide (((rd_T42 t479 (rd t480 x7_1)).f4) ≥ ((rd_T42 t479 (rd t480 (ji24))).f4))), (wrap64 (x7_1 + 1)), (by first | rfl | (simp; done) | (simp only [← hji24] <;> (first | rfl | (simp; done) | (simp [bne_nil_, beq_nil_]; done))) | (simp [*]; done) | (simp [bne_nil_, beq_nil_]; done)), (by first | rfl | (simp; done) | (simp [*]; done) | (simp [bne_nil_, beq_nil_]; done)), H', ⟨by have := HK1.out; omega⟩, ⟨by (with_reducible repeat (first | apply Kd.R_alloc | apply Kd.R_drewN | apply Kd.R_drew)); exact HO_3.out⟩, ⟨by (with_reducible repeat (first | apply Kd.R_alloc | apply Kd.R_drewN | apply Kd.R_drew)); exact HO_4.out⟩, ⟨bp HB.out⟩⟩
                ·
                 rw [if_neg c28] at H
                 exact absurd H (by simp)
               ·
                rw [if_neg c27] at H
                exact absurd H (by simp)
              ·
               rw [if_neg c26] at H
               exact absurd H (by simp)
             ·
              rw [if_neg c25] at H
              exact absurd H (by simp)
           ·
            replace c20 := Bool.eq_false_iff.mpr c20
            subst c20
            have H1 : (laws_FnRealTime.l0 k1 t479 t480 t485 false (wrap64 (x7_1 + 1))) = some r := by rw [if_neg (show ¬ (false = true) by decide)] at H; exact H
            clear H
            have H := H1
            clear H1
            have H' := Aside0.mk H
            clear H
            try go_wp2
            have n0_ := Aside0.mk (Kd.R_drew HO_3.out)
            have n1_ := Aside0.mk (Kd.R_drew HO_4.out)
            have n2_ := Aside0.mk (below_drew1 HB.out)
            clear HO_3
            clear HO_4
            clear HB
            have HO_3 := n0_
            have HO_4 := n1_
            have HB := n2_
            clear n0_ n1_ n2_
            have p489 : 0 ≤ (x7_1 : Int) := of_decide_eq_true (by first | (with_reducible assumption) | assumption)
            have q489 : x7_1 < (t480.length : Int) := of_decide_eq_true (by first | (with_reducible assumption) | assumption)
            obtain ⟨ad489, e489, hx489_0⟩ := Kd.at_int (Kd.R_reads' HO_4.out).2.2 x7_1 p489 q489
            cases e489
            replace p489 := eq_true p489
            replace q489 := eq_true q489
            have p490 : 0 ≤ ((rd t480 x7_1) : Int) := of_decide_eq_true (by first | (with_reducible assumption) | assumption)
            have q490 : (rd t480 x7_1) < (t479.length : Int) := of_decide_eq_true (by first | (with_reducible assumption) | assumption)
            obtain ⟨ad490, e490, hx490_0, hx490_1, hx490_2, hx490_3, hx490_4, hx490_5, hx490_6, hx490_7, hx490_8⟩ := at_T42 (Kd.R_reads' HO_3.out).2.2 (rd t480 x7_1) p490 q490
            cases e490
            replace p490 := eq_true p490
            replace q490 := eq_true q490
            refine start_ (n := 36) (S := fun w' => w'.cell? (ad489.add (x7_1).toNat) = some (.int .i64 (rd t480 x7_1)) ∧ w'.cell? (ad490.add (((rd t480 x7_1)).toNat * 9)) = some (.int .i64 ((rd_T42 t479 (rd t480 x7_1)).f0)) ∧ w'.cell? ⟨(ad490.add (((rd t480 x7_1)).toNat * 9)).block, (ad490.add (((rd t480 x7_1)).toNat * 9)).off + 1, none⟩ = some (.int .i64 ((rd_T42 t479 (rd t480 x7_1)).f1)) ∧ w'.cell? ⟨(ad490.add (((rd t480 x7_1)).toNat * 9)).block, (ad490.add (((rd t480 x7_1)).toNat * 9)).off + 2, none⟩ = some (.int .i64 ((rd_T42 t479 (rd t480 x7_1)).f2.f0)) ∧ w'.cell? ⟨(ad490.add (((rd t480 x7_1)).toNat * 9)).block, (ad490.add (((rd t480 x7_1)).toNat * 9)).off + 3, none⟩ = some (.string ((rd_T42 t479 (rd t480 x7_1)).f2.f1)) ∧ w'.cell? ⟨(ad490.add (((rd t480 x7_1)).toNat * 9)).block, (ad490.add (((rd t480 x7_1)).toNat * 9)).off + 4, none⟩ = some (.int .i64 ((rd_T42 t479 (rd t480 x7_1)).f2.f2)) ∧ w'.cell? ⟨(ad490.add (((rd t480 x7_1)).toNat * 9)).block, (ad490.add (((rd t480 x7_1)).toNat * 9)).off + 5, none⟩ = some (.int .i64 ((rd_T42 t479 (rd t480 x7_1)).f2.f3)) ∧ w'.cell? ⟨(ad490.add (((rd t480 x7_1)).toNat * 9)).block, (ad490.add (((rd t480 x7_1)).toNat * 9)).off + 6, none⟩ = some (.int .i64 ((rd_T42 t479 (rd t480 x7_1)).f3)) ∧ w'.cell? ⟨(ad490.add (((rd t480 x7_1)).toNat * 9)).block, (ad490.add (((rd t480 x7_1)).toNat * 9)).off + 7, none⟩ = some (.int .i64 ((rd_T42 t479 (rd t480 x7_1)).f4)) ∧ w'.cell? ⟨(ad490.add (((rd t480 x7_1)).toNat * 9)).block, (ad490.add (((rd t480 x7_1)).toNat * 9)).off + 8, none⟩ = some (.int .i64 ((rd_T42 t479 (rd t480 x7_1)).f5))) (ds := []) laws_FnRealTime.m0 (by kernel_rfl) rfl rfl ⟨hx489_0, hx490_0, hx490_1, hx490_2, hx490_3, hx490_4, hx490_5, hx490_6, hx490_7, hx490_8⟩ (fun hHeld => ?_); refine with_tabW laws_FnRealTime.tab13 laws_FnRealTime.bits13 (fun HT_ HW_ => ?_)
            generalize wr.drew = w31 at HO_3 HO_4 HB hx489_0 hx490_0 hx490_1 hx490_2 hx490_3 hx490_4 hx490_5 hx490_6 hx490_7 hx490_8 hHeld ⊢
            refine pur (i := 0) (N := some 45) laws_FnRealTime.m1 rfl rfl HT_.out ?_
            refine pur (i := 1) (N := some 46) laws_FnRealTime.m2 rfl rfl HT_.out ?_
            refine pur (i := 2) (N := some 47) laws_FnRealTime.m3 rfl rfl HT_.out ?_
            refine pur (i := 3) (N := some 48) laws_FnRealTime.m4 rfl rfl HT_.out ?_
            refine pur (i := 4) (N := some 49) laws_FnRealTime.m5 rfl rfl HT_.out ?_
            refine pur (i := 5) (N := some 50) laws_FnRealTime.m6 rfl rfl HT_.out ?_
            refine take_ (i := 6) (N := some 51) (v := ?_) (a' := ?_) laws_FnRealTime.m7 rfl rfl (take_ofW HT_.out HW_.out (by kernel_rfl)) (fun _ _ _ h => h) (Or.inl ⟨by rfl, ?_⟩) hHeld ?_ ?_
            rotate_left
            ·
             rintro w' ⟨s0, s1, s2, s3, s4, s5, s6, s7, s8, s9⟩
             go_simp
             with_reducible rfl
            rotate_left; focus (simp only [Act.put, List.setIfInBounds_toArray, List.set_cons_zero, List.set_cons_succ, i64_w, i32_w]; rfl)
            refine pur (i := 7) (N := some 52) laws_FnRealTime.m8 rfl rfl HT_.out ?_
            refine take_ (i := 8) (N := some 53) (v := ?_) (a' := ?_) laws_FnRealTime.m9 rfl rfl (take_ofW HT_.out HW_.out (by kernel_rfl)) (fun _ _ _ h => h) (Or.inl ⟨by rfl, ?_⟩) hHeld ?_ ?_
            rotate_left
            ·
             rintro w' ⟨s0, s1, s2, s3, s4, s5, s6, s7, s8, s9⟩
             go_simp
             with_reducible rfl
            rotate_left; focus (simp only [Act.put, List.setIfInBounds_toArray, List.set_cons_zero, List.set_cons_succ, i64_w, i32_w]; rfl)
            refine one_ (i := 9) (N := some 54) laws_FnRealTime.m10 rfl rfl (one_of HT_.out (by kernel_rfl)) (by decide) (fun K hK => ?_)
            refine goes_ Try.func24 (by kernel_rfl) rfl #[.agg #[.int .i64 ((rd_T42 t479 (rd t480 x7_1)).f0), .int .i64 ((rd_T42 t479 (rd t480 x7_1)).f1), .int .i64 ((rd_T42 t479 (rd t480 x7_1)).f2.f0), .string ((rd_T42 t479 (rd t480 x7_1)).f2.f1), .int .i64 ((rd_T42 t479 (rd t480 x7_1)).f2.f2), .int .i64 ((rd_T42 t479 (rd t480 x7_1)).f2.f3), .int .i64 ((rd_T42 t479 (rd t480 x7_1)).f3), .int .i64 ((rd_T42 t479 (rd t480 x7_1)).f4), .int .i64 ((rd_T42 t479 (rd t480 x7_1)).f5)]] (by rfl) rfl rfl (by (try simp only [List.map_toArray, List.map_cons, List.map_nil]); first | done | rfl | (simp only [List.length_drop, List.length_take]; rfl)) ?_
            with_reducible refine (impl_ResultValid.calls k1 ((rd_T42 t479 (rd t480 x7_1)).f0) ((rd_T42 t479 (rd t480 x7_1)).f1) ((rd_T42 t479 (rd t480 x7_1)).f2.f0) ((rd_T42 t479 (rd t480 x7_1)).f2.f1) ((rd_T42 t479 (rd t480 x7_1)).f2.f2) ((rd_T42 t479 (rd t480 x7_1)).f2.f3) ((rd_T42 t479 (rd t480 x7_1)).f3) ((rd_T42 t479 (rd t480 x7_1)).f4) ((rd_T42 t479 (rd t480 x7_1)).f5) false _ A19.out).mono ?_
            rintro e w32 ⟨rfl, hb⟩
            have HS0_ := (hb.cell (World.block_lt_of_cell? _ _ (hHeld.1))).trans (hHeld.1)
            have HS1_ := (hb.cell (World.block_lt_of_cell? _ _ (hHeld.2.1))).trans (hHeld.2.1)
            have HS2_ := (hb.cell (World.block_lt_of_cell? _ _ (hHeld.2.2.1))).trans (hHeld.2.2.1)
            have HS3_ := (hb.cell (World.block_lt_of_cell? _ _ (hHeld.2.2.2.1))).trans (hHeld.2.2.2.1)
            have HS4_ := (hb.cell (World.block_lt_of_cell? _ _ (hHeld.2.2.2.2.1))).trans (hHeld.2.2.2.2.1)
            have HS5_ := (hb.cell (World.block_lt_of_cell? _ _ (hHeld.2.2.2.2.2.1))).trans (hHeld.2.2.2.2.2.1)
            have HS6_ := (hb.cell (World.block_lt_of_cell? _ _ (hHeld.2.2.2.2.2.2.1))).trans (hHeld.2.2.2.2.2.2.1)
            have HS7_ := (hb.cell (World.block_lt_of_cell? _ _ (hHeld.2.2.2.2.2.2.2.1))).trans (hHeld.2.2.2.2.2.2.2.1)
            have HS8_ := (hb.cell (World.block_lt_of_cell? _ _ (hHeld.2.2.2.2.2.2.2.2.1))).trans (hHeld.2.2.2.2.2.2.2.2.1)
            have HS9_ := (hb.cell (World.block_lt_of_cell? _ _ (hHeld.2.2.2.2.2.2.2.2.2))).trans (hHeld.2.2.2.2.2.2.2.2.2)
            refine ⟨_, rfl, ?_⟩
            have n0_ := Aside0.mk (Kd.R_below (kr HO_3.out) hb)
            have n1_ := Aside0.mk (Kd.R_below (kr HO_4.out) hb)
            have n2_ := an0 HB hb
            clear HO_3
            clear HO_4
            clear HB
            have HO_3 := n0_
            have HO_4 := n1_
            have HB := n2_
            clear n0_ n1_ n2_
            (try clear hb)
            (try clear hb2)
            (try clear hk)
            (try clear hi)
            refine hK.out _ _ ⟨HS0_, HS1_, HS2_, HS3_, HS4_, HS5_, HS6_, HS7_, HS8_, HS9_⟩ (fun hHeld => ?_)
            clear hK K
            refine norm_ (a' := ?_) ?_ ?_
            rotate_left
            ·
             show Act.put _ (some 54) _ = _
             simp only [Act.put, List.setIfInBounds_toArray, List.set_cons_zero, List.set_cons_succ, i64_w, i32_w]
             rfl
            refine pur (i := 10) (N := some 55) laws_FnRealTime.m11 rfl rfl HT_.out ?_
            refine pur (i := 11) (N := some 56) laws_FnRealTime.m12 rfl rfl HT_.out ?_
            refine puo (i := 12) (N := some 57) laws_FnRealTime.m13 rfl rfl HT_.out ?_
            refine puo (i := 13) (N := some 58) laws_FnRealTime.m14 rfl rfl HT_.out ?_
            refine puo (i := 14) (N := some 59) laws_FnRealTime.m15 rfl rfl HT_.out ?_
            refine puo (i := 15) (N := some 60) laws_FnRealTime.m16 rfl rfl HT_.out ?_
            refine puo (i := 16) (N := some 61) laws_FnRealTime.m17 rfl rfl HT_.out ?_
            refine puo (i := 17) (N := some 62) laws_FnRealTime.m18 rfl rfl HT_.out ?_
            refine puo (i := 18) (N := some 63) laws_FnRealTime.m19 rfl rfl HT_.out ?_
            refine puo (i := 19) (N := some 64) laws_FnRealTime.m20 rfl rfl HT_.out ?_
            refine puo (i := 20) (N := some 65) laws_FnRealTime.m21 rfl rfl HT_.out ?_
            refine puo (i := 21) (N := some 66) laws_FnRealTime.m22 rfl rfl HT_.out ?_
            refine puo (i := 22) (N := some 67) laws_FnRealTime.m23 rfl rfl HT_.out ?_
            refine puo (i := 23) (N := some 68) laws_FnRealTime.m24 rfl rfl HT_.out ?_
            refine puo (i := 24) (N := some 69) laws_FnRealTime.m25 rfl rfl HT_.out ?_
            refine puo (i := 25) (N := some 70) laws_FnRealTime.m26 rfl rfl HT_.out ?_
            refine puo (i := 26) (N := some 71) laws_FnRealTime.m27 rfl rfl HT_.out ?_
            refine puo (i := 27) (N := some 72) laws_FnRealTime.m28 rfl rfl HT_.out ?_
            refine puo (i := 28) (N := some 73) laws_FnRealTime.m29 rfl rfl HT_.out ?_
            refine puo (i := 29) (N := some 74) laws_FnRealTime.m30 rfl rfl HT_.out ?_
            refine puo (i := 30) (N := some 75) laws_FnRealTime.m31 rfl rfl HT_.out ?_
            refine puo (i := 31) (N := some 76) laws_FnRealTime.m32 rfl rfl HT_.out ?_
            refine puo (i := 32) (N := some 77) laws_FnRealTime.m33 rfl rfl HT_.out ?_
            refine puo (i := 33) (N := some 78) laws_FnRealTime.m34 rfl rfl HT_.out ?_
            refine pur (i := 34) (N := some 79) laws_FnRealTime.m35 rfl rfl HT_.out ?_
            refine pur (i := 35) (N := some 6) laws_FnRealTime.m36 rfl rfl HT_.out ?_
            refine done_ (done_of HT_.out (by kernel_rfl)) ?_
            try go_wp2
            go_roundg k1
            case measure => have := HK1.out; omega
            case rel => exact ⟨(false), (wrap64 (x7_1 + 1)), (by first | rfl | (simp; done) | (simp [*]; done) | (simp [bne_nil_, beq_nil_]; done)), (by first | rfl | (simp; done) | (simp [*]; done) | (simp [bne_nil_, beq_nil_]; done)), H', ⟨by have := HK1.out; omega⟩, ⟨by (with_reducible repeat (first | apply Kd.R_alloc | apply Kd.R_drewN | apply Kd.R_drew)); exact HO_3.out⟩, ⟨by (with_reducible repeat (first | apply Kd.R_alloc | apply Kd.R_drewN | apply Kd.R_drew)); exact HO_4.out⟩, ⟨bp HB.out⟩⟩
          ·
           rw [if_neg c18] at H
           exact absurd H (by simp)
         ·
          rw [if_neg c17] at H
          exact absurd H (by simp)
        ·
         rw [if_neg c16] at H
         exact absurd H (by simp)
       ·
        replace c15 := Bool.eq_false_iff.mpr c15
        subst c15
        have H1 : (laws_FnRealTime.l0 k1 t479 t480 t485 false (wrap64 (x7_1 + 1))) = some r := by rw [if_neg (show ¬ (false = true) by decide)] at H; exact H
        clear H
        have H := H1
        clear H1
        have H' := Aside0.mk H
        clear H
        try go_wp2
        have n0_ := Aside0.mk (Kd.R_drew HO_3.out)
        have n1_ := Aside0.mk (Kd.R_drew HO_4.out)
        have n2_ := Aside0.mk (below_drew1 HB.out)
        clear HO_3
        clear HO_4
        clear HB
        have HO_3 := n0_
        have HO_4 := n1_
        have HB := n2_
        clear n0_ n1_ n2_
        refine start_ (n := 36) (S := fun w' => True) (ds := []) laws_FnRealTime.m0 (by kernel_rfl) rfl rfl trivial (fun hHeld => ?_); refine with_tabW laws_FnRealTime.tab13 laws_FnRealTime.bits13 (fun HT_ HW_ => ?_)
        generalize wr.drew = w33 at HO_3 HO_4 HB hHeld ⊢
        refine pur (i := 0) (N := some 45) laws_FnRealTime.m1 rfl rfl HT_.out ?_
        refine pur (i := 1) (N := some 46) laws_FnRealTime.m2 rfl rfl HT_.out ?_
        refine puo (i := 2) (N := some 47) laws_FnRealTime.m3 rfl rfl HT_.out ?_
        refine puo (i := 3) (N := some 48) laws_FnRealTime.m4 rfl rfl HT_.out ?_
        refine puo (i := 4) (N := some 49) laws_FnRealTime.m5 rfl rfl HT_.out ?_
        refine puo (i := 5) (N := some 50) laws_FnRealTime.m6 rfl rfl HT_.out ?_
        refine puo (i := 6) (N := some 51) laws_FnRealTime.m7 rfl rfl HT_.out ?_
        refine puo (i := 7) (N := some 52) laws_FnRealTime.m8 rfl rfl HT_.out ?_
        refine puo (i := 8) (N := some 53) laws_FnRealTime.m9 rfl rfl HT_.out ?_
        refine puo (i := 9) (N := some 54) laws_FnRealTime.m10 rfl rfl HT_.out ?_
        refine pur (i := 10) (N := some 55) laws_FnRealTime.m11 rfl rfl HT_.out ?_
        refine pur (i := 11) (N := some 56) laws_FnRealTime.m12 rfl rfl HT_.out ?_
        refine puo (i := 12) (N := some 57) laws_FnRealTime.m13 rfl rfl HT_.out ?_
        refine puo (i := 13) (N := some 58) laws_FnRealTime.m14 rfl rfl HT_.out ?_
        refine puo (i := 14) (N := some 59) laws_FnRealTime.m15 rfl rfl HT_.out ?_
        refine puo (i := 15) (N := some 60) laws_FnRealTime.m16 rfl rfl HT_.out ?_
        refine puo (i := 16) (N := some 61) laws_FnRealTime.m17 rfl rfl HT_.out ?_
        refine puo (i := 17) (N := some 62) laws_FnRealTime.m18 rfl rfl HT_.out ?_
        refine puo (i := 18) (N := some 63) laws_FnRealTime.m19 rfl rfl HT_.out ?_
        refine puo (i := 19) (N := some 64) laws_FnRealTime.m20 rfl rfl HT_.out ?_
        refine puo (i := 20) (N := some 65) laws_FnRealTime.m21 rfl rfl HT_.out ?_
        refine puo (i := 21) (N := some 66) laws_FnRealTime.m22 rfl rfl HT_.out ?_
        refine puo (i := 22) (N := some 67) laws_FnRealTime.m23 rfl rfl HT_.out ?_
        refine puo (i := 23) (N := some 68) laws_FnRealTime.m24 rfl rfl HT_.out ?_
        refine puo (i := 24) (N := some 69) laws_FnRealTime.m25 rfl rfl HT_.out ?_
        refine puo (i := 25) (N := some 70) laws_FnRealTime.m26 rfl rfl HT_.out ?_
        refine puo (i := 26) (N := some 71) laws_FnRealTime.m27 rfl rfl HT_.out ?_
        refine puo (i := 27) (N := some 72) laws_FnRealTime.m28 rfl rfl HT_.out ?_
        refine puo (i := 28) (N := some 73) laws_FnRealTime.m29 rfl rfl HT_.out ?_
        refine puo (i := 29) (N := some 74) laws_FnRealTime.m30 rfl rfl HT_.out ?_
        refine puo (i := 30) (N := some 75) laws_FnRealTime.m31 rfl rfl HT_.out ?_
        refine puo (i := 31) (N := some 76) laws_FnRealTime.m32 rfl rfl HT_.out ?_
        refine puo (i := 32) (N := some 77) laws_FnRealTime.m33 rfl rfl HT_.out ?_
        refine puo (i := 33) (N := some 78) laws_FnRealTime.m34 rfl rfl HT_.out ?_
        refine pur (i := 34) (N := some 79) laws_FnRealTime.m35 rfl rfl HT_.out ?_
        refine pur (i := 35) (N := some 6) laws_FnRealTime.m36 rfl rfl HT_.out ?_
        refine done_ (done_of HT_.out (by kernel_rfl)) ?_
        try go_wp2
        go_roundg k1
        case measure => have := HK1.out; omega
        case rel => exact ⟨(false), (wrap64 (x7_1 + 1)), (by first | rfl | (simp; done) | (simp [*]; done) | (simp [bne_nil_, beq_nil_]; done)), (by first | rfl | (simp; done) | (simp [*]; done) | (simp [bne_nil_, beq_nil_]; done)), H', ⟨by have := HK1.out; omega⟩, ⟨by (with_reducible repeat (first | apply Kd.R_alloc | apply Kd.R_drewN | apply Kd.R_drew)); exact HO_3.out⟩, ⟨by (with_reducible repeat (first | apply Kd.R_alloc | apply Kd.R_drewN | apply Kd.R_drew)); exact HO_4.out⟩, ⟨bp HB.out⟩⟩
      ·
       rw [if_neg c14] at H
       have c14b0 : decide (x7_1 < (t480.length : Int)) = false := decide_eq_false c14
       clear c14
       have HC34 := Aside0.mk H
       clear H
       go_upto_region 14 with (fail)
       go_cut [84] (fun v84 wc => ∃ (kq : Nat) (x84_33 : Bool), v84 = .bool x84_33 ∧ Aside0 (laws_FnRealTime.j1 kq t479 t480 t485 x84_33 = some r) ∧ Aside0 (kq ≤ k1) ∧ Aside0 (Kd.R k42 42 wc w.heap.size (fun _ => True) (.slice Ao10 t479.length co10) t479) ∧ Aside0 (Kd.R (Kd.int .i64) 3 wc w.heap.size (fun _ => True) (.slice Ao11 t480.length co11) t480) ∧ Aside0 (Below w.heap.size w wc))
       case first =>
        have H := HC34.out
        clear HC34
        by_cases c35 : x6_1 = true
        ·
         subst c35
         have H1 : (laws_FnRealTime.j1 k1 t479 t480 t485 (!t485)) = some r := by rw [if_pos rfl] at H; exact H
         clear H
         have H := H1
         clear H1
         have H' := Aside0.mk H
         clear H
         go_wp2
         go_meet
         case rel => exact ⟨_, (!t485), (by first | rfl | (simp; done) | (simp [*]; done) | (simp [bne_nil_, beq_nil_]; done)), H', ⟨by have := HK1.out; first | omega | exact Nat.le_refl _⟩, ⟨by (with_reducible repeat (first | apply Kd.R_alloc | apply Kd.R_drewN | apply Kd.R_drew)); exact HO_3.out⟩, ⟨by (with_reducible repeat (first | apply Kd.R_alloc | apply Kd.R_drewN | apply Kd.R_drew)); exact HO_4.out⟩, ⟨bp HB.out⟩⟩
        ·
         replace c35 := Bool.eq_false_iff.mpr c35
         subst c35
         have H1 : (laws_FnRealTime.j1 k1 t479 t480 t485 false) = some r := by rw [if_neg (show ¬ (false = true) by decide)] at H; exact H
         clear H
         have H := H1
         clear H1
         have H' := Aside0.mk H
         clear H
         go_wp2
         go_meet
         case rel => exact ⟨_, (false), (by first | rfl | (simp; done) | (simp [*]; done) | (simp [bne_nil_, beq_nil_]; done)), H', ⟨by have := HK1.out; first | omega | exact Nat.le_refl _⟩, ⟨by (with_reducible repeat (first | apply Kd.R_alloc | apply Kd.R_drewN | apply Kd.R_drew)); exact HO_3.out⟩, ⟨by (with_reducible repeat (first | apply Kd.R_alloc | apply Kd.R_drewN | apply Kd.R_drew)); exact HO_4.out⟩, ⟨bp HB.out⟩⟩
       case rest =>
        clear HC34
        try clear c1
        try clear c2
        try clear p2
        try clear c3
        try clear p4
        try clear q4
        try clear hx4
        try clear p6
        try clear c14
        try clear c14b0
        try clear c15
        try clear c16
        try clear c17
        try clear c18
        try clear c20
        try clear c24
        try clear c25
        try clear c26
        try clear c27
        try clear c28
        try clear c35
        try clear hx489_0
        try clear hx490_0
        try clear hx490_1
        try clear hx490_2
        try clear hx490_3
        try clear hx490_4
        try clear hx490_5
        try clear hx490_6
        try clear hx490_7
        try clear hx490_8
        try clear p489
        try clear p490
        try clear q489
        try clear q490
        obtain ⟨kq, x84_33, rfl, HA, HJ33, HO_3, HO_4, HB⟩ := hcut
        cases kq with
        | zero => exact absurd HA.out (by simp [laws_FnRealTime.j1])
        | succ kj33 =>
         have H := HA.out
         clear HA
         simp only [laws_FnRealTime.j1] at H
         by_cases c36 : x84_33 = true
         ·
          subst c36
          have H1 : (some false) = some r := by rw [if_pos rfl] at H; exact H
          clear H
          have H := H1
          clear H1
          obtain rfl := Option.some.inj H
          exact absurd hrt.out (by simp)
         ·
          replace c36 := Bool.eq_false_iff.mpr c36
          subst c36
          have H1 : (if t485 = true then (laws_FnRealTime.j2 kj33 t479 t480 ((t480.length : Int) == 0)) else (laws_FnRealTime.j2 kj33 t479 t480 true)) = some r := by rw [if_neg (show ¬ (false = true) by decide)] at H; exact H
          clear H
          have H := H1
          clear H1
          have HC37 := Aside0.mk H
          clear H
          go_upto_region 16 with (fail)
          go_cut [91] (fun v91 wc => ∃ (kq : Nat) (x91_36 : Bool), v91 = .bool x91_36 ∧ Aside0 (laws_FnRealTime.j2 kq t479 t480 x91_36 = some r) ∧ Aside0 (kq ≤ kj33) ∧ Aside0 (Kd.R k42 42 wc w.heap.size (fun _ => True) (.slice Ao10 t479.length co10) t479) ∧ Aside0 (Kd.R (Kd.int .i64) 3 wc w.heap.size (fun _ => True) (.slice Ao11 t480.length co11) t480) ∧ Aside0 (Below w.heap.size w wc))
          case first =>
           have H := HC37.out
           clear HC37
           by_cases c38 : t485 = true
           ·
            subst c38
            have H1 : (laws_FnRealTime.j2 kj33 t479 t480 ((t480.length : Int) == 0)) = some r := by rw [if_pos rfl] at H; exact H
            clear H
            have H := H1
            clear H1
            have H' := Aside0.mk H
            clear H
            go_wp2
            go_meet
            case rel => exact ⟨_, (((t480.length : Int) == 0)), (by first | rfl | (simp; done) | (simp [*]; done) | (simp [bne_nil_, beq_nil_]; done)), H', ⟨by have := HK1.out; have := HJ33.out; first | omega | exact Nat.le_refl _⟩, ⟨by (with_reducible repeat (first | apply Kd.R_alloc | apply Kd.R_drewN | apply Kd.R_drew)); exact HO_3.out⟩, ⟨by (with_reducible repeat (first | apply Kd.R_alloc | apply Kd.R_drewN | apply Kd.R_drew)); exact HO_4.out⟩, ⟨bp HB.out⟩⟩
           ·
            replace c38 := Bool.eq_false_iff.mpr c38
            subst c38
            have H1 : (laws_FnRealTime.j2 kj33 t479 t480 true) = some r := by rw [if_neg (show ¬ (false = true) by decide)] at H; exact H
            clear H
            have H := H1
            clear H1
            have H' := Aside0.mk H
            clear H
            go_wp2
            go_meet
            case rel => exact ⟨_, (true), (by first | rfl | (simp; done) | (simp [*]; done) | (simp [bne_nil_, beq_nil_]; done)), H', ⟨by have := HK1.out; have := HJ33.out; first | omega | exact Nat.le_refl _⟩, ⟨by (with_reducible repeat (first | apply Kd.R_alloc | apply Kd.R_drewN | apply Kd.R_drew)); exact HO_3.out⟩, ⟨by (with_reducible repeat (first | apply Kd.R_alloc | apply Kd.R_drewN | apply Kd.R_drew)); exact HO_4.out⟩, ⟨bp HB.out⟩⟩
          case rest =>
           clear HC37
           try clear c1
           try clear c2
           try clear p2
           try clear c3
           try clear p4
           try clear q4
           try clear hx4
           try clear p6
           try clear c14
           try clear c14b0
           try clear c15
           try clear c16
           try clear c17
           try clear c18
           try clear c20
           try clear c24
           try clear c25
           try clear c26
           try clear c27
           try clear c28
           try clear c35
           try clear c36
           try clear c38
           try clear hx489_0
           try clear hx490_0
           try clear hx490_1
           try clear hx490_2
           try clear hx490_3
           try clear hx490_4
           try clear hx490_5
           try clear hx490_6
           try clear hx490_7
           try clear hx490_8
           try clear p2
           try clear p4
           try clear p489
           try clear p490
           try clear p6
           try clear q4
           try clear q489
           try clear q490
           obtain ⟨kq, x91_36, rfl, HA, HJ36, HO_3, HO_4, HB⟩ := hcut
           cases kq with
           | zero => exact absurd HA.out (by simp [laws_FnRealTime.j2])
           | succ kj36 =>
            have H := HA.out
            clear HA
            simp only [laws_FnRealTime.j2] at H
            by_cases c39 : x91_36 = true
            ·
             subst c39
             have H1 : ((laws_alive.f kj36).bind fun t496 => (some t496)) = some r := by rw [if_pos rfl] at H; exact H
             clear H
             have H := H1
             clear H1
             replace H := Option.bind_eq_some_iff.mp H
             obtain ⟨t496, A400, H⟩ := H
             replace H : (some t496) = some r := H
             have A40 := Aside0.mk A400
             clear A400
             obtain rfl := Option.some.inj H
             go_wp2_with (first | ((with_reducible refine gate_callee (f := 18) rfl ?_); refine gsl (some 92) rfl Try.func18 #[] rfl ?_; (with_reducible refine (laws_alive.calls kj36  t496 _ A40.out).mono ?_); rintro e w41 ⟨rfl, hb⟩; refine ⟨_, rfl, ?_⟩; have n0_ := Aside0.mk (Kd.R_below (kr HO_3.out) hb); have n1_ := Aside0.mk (Kd.R_below (kr HO_4.out) hb); have n2_ := an0 HB hb; clear HO_3; clear HO_4; clear HB; have HO_3 := n0_; have HO_4 := n1_; have HB := n2_; clear n0_ n1_ n2_; (try clear hb); (try clear hb2); (try clear hk); (try clear hi)))
             go_ret
             exact ⟨fe, bp HB.out⟩
            ·
             replace c39 := Bool.eq_false_iff.mpr c39
             subst c39
             have H1 : (if 0 ≤ (wrap64 ((t480.length : Int) - 1)) then (if (wrap64 ((t480.length : Int) - 1)) < (t480.length : Int) then ((some (([] : List (S42)) : List (S42))).bind fun y498 => (if 0 ≤ (rd t480 (wrap64 ((t480.length : Int) - 1))) then (if (rd t480 (wrap64 ((t480.length : Int) - 1))) ≤ (t479.length : Int) then ((some (t479.take ((rd t480 (wrap64 ((t480.length : Int) - 1))) : Int).toNat : List (S42))).bind fun y501 => (if y498.length + y501.length < 1759218604441 then ((some (y498 ++ y501 : List (S42))).bind fun y505 => (if 0 ≤ (wrap64 ((rd t480 (wrap64 ((t480.length : Int) - 1))) + 1)) then (if (wrap64 ((rd t480 (wrap64 ((t480.length : Int) - 1))) + 1)) ≤ (t479.length : Int) then ((some (t479.drop ((wrap64 ((rd t480 (wrap64 ((t480.length : Int) - 1))) + 1)) : Int).toNat : List (S42))).bind fun y508 => (if y505.length + y508.length < 1759218604441 then (laws_FnRealTime.l1 kj36 t480 (rd t480 (wrap64 ((t480.length : Int) - 1))) (y505 ++ y508) (([] : List Int)) 0) else (none))) else (none)) else (none))) else (none))) else (none)) else (none))) else (none)) else (none)) = some r := by rw [if_neg (show ¬ (false = true) by decide)] at H; exact H
             clear H
             have H := H1
             clear H1
             obtain ⟨ji42, hji42⟩ : ∃ j_ : Int, (wrap64 ((t480.length : Int) - 1)) = j_ := ⟨_, rfl⟩
             replace H : (if 0 ≤ (ji42) then (if (ji42) < (t480.length : Int) then ((some (([] : List (S42)) : List (S42))).bind fun y498 => (if 0 ≤ (rd t480 (ji42)) then (if (rd t480 (ji42)) ≤ (t479.length : Int) then ((some (t479.take ((rd t480 (ji42)) : Int).toNat : List (S42))).bind fun y501 => (if y498.length + y501.length < 1759218604441 then ((some (y498 ++ y501 : List (S42))).bind fun y505 => (if 0 ≤ (wrap64 ((rd t480 (ji42)) + 1)) then (if (wrap64 ((rd t480 (ji42)) + 1)) ≤ (t479.length : Int) then ((some (t479.drop ((wrap64 ((rd t480 (ji42)) + 1)) : Int).toNat : List (S42))).bind fun y508 => (if y505.length + y508.length < 1759218604441 then (laws_FnRealTime.l1 kj36 t480 (rd t480 (ji42)) (y505 ++ y508) (([] : List Int)) 0) else (none))) else (none)) else (none))) else (none))) else (none)) else (none))) else (none)) else (none)) = some r := by first | (rw [hji42] at H; exact H) | (simp only [hji42] at H ⊢; exact H)
             have hji42w : (IntKind.i64.wrap ((t480.length : Int) - 1)) = ji42 := (i64_w _).trans hji42
             by_cases c43 : 0 ≤ (ji42)
             ·
              rw [if_pos c43] at H
              have c43b0 : decide (0 ≤ (ji42)) = true := decide_eq_true c43
              clear c43
              by_cases c44 : (ji42) < (t480.length : Int)
              ·
               rw [if_pos c44] at H
               have c44b0 : decide ((ji42) < (t480.length : Int)) = true := decide_eq_true c44
               clear c44
               obtain ⟨y498, hy498⟩ : ∃ y_ : List (S42), y_ = (([] : List (S42))) := ⟨_, rfl⟩
               replace H : (if 0 ≤ (rd t480 (ji42)) then (if (rd t480 (ji42)) ≤ (t479.length : Int) then ((some (t479.take ((rd t480 (ji42)) : Int).toNat : List (S42))).bind fun y501 => (if y498.length + y501.length < 1759218604441 then ((some (y498 ++ y501 : List (S42))).bind fun y505 => (if 0 ≤ (wrap64 ((rd t480 (ji42)) + 1)) then (if (wrap64 ((rd t480 (ji42)) + 1)) ≤ (t479.length : Int) then ((some (t479.drop ((wrap64 ((rd t480 (ji42)) + 1)) : Int).toNat : List (S42))).bind fun y508 => (if y505.length + y508.length < 1759218604441 then (laws_FnRealTime.l1 kj36 t480 (rd t480 (ji42)) (y505 ++ y508) (([] : List Int)) 0) else (none))) else (none)) else (none))) else (none))) else (none)) else (none)) = some r := by first | (rw [hy498]; with_reducible exact H) | (have H2_ := (Option.bind_some _ _).symm.trans H; rw [hy498]; with_reducible exact H2_) | (have H2_ := (Option.bind_some _ _).symm.trans H; with_reducible exact H2_) | with_reducible exact H | (rw [hy498]; exact H) | exact H
               have Ny498 := Aside0.mk hy498
               clear hy498
               by_cases c45 : 0 ≤ (rd t480 (ji42))
               ·
                rw [if_pos c45] at H
                have c45b0 := eq_true c45
                have c45b1 : decide (0 ≤ (rd t480 (ji42))) = true := decide_eq_true c45
                clear c45
                by_cases c46 : (rd t480 (ji42)) ≤ (t479.length : Int)
                ·
                 rw [if_pos c46] at H
                 have c46b0 := eq_true c46
                 have c46b1 : decide ((rd t480 (ji42)) ≤ (t479.length : Int)) = true := decide_eq_true c46
                 clear c46
                 obtain ⟨y501, hy501⟩ : ∃ y_ : List (S42), y_ = (t479.take ((rd t480 (ji42)) : Int).toNat) := ⟨_, rfl⟩
                 replace H : (if y498.length + y501.length < 1759218604441 then ((some (y498 ++ y501 : List (S42))).bind fun y505 => (if 0 ≤ (wrap64 ((rd t480 (ji42)) + 1)) then (if (wrap64 ((rd t480 (ji42)) + 1)) ≤ (t479.length : Int) then ((some (t479.drop ((wrap64 ((rd t480 (ji42)) + 1)) : Int).toNat : List (S42))).bind fun y508 => (if y505.length + y508.length < 1759218604441 then (laws_FnRealTime.l1 kj36 t480 (rd t480 (ji42)) (y505 ++ y508) (([] : List Int)) 0) else (none))) else (none)) else (none))) else (none)) = some r := by first | (rw [hy501]; with_reducible exact H) | (have H2_ := (Option.bind_some _ _).symm.trans H; rw [hy501]; with_reducible exact H2_) | (have H2_ := (Option.bind_some _ _).symm.trans H; with_reducible exact H2_) | with_reducible exact H | (rw [hy501]; exact H) | exact H
                 have Ny501 := Aside0.mk hy501
                 clear hy501
                 by_cases c47 : y498.length + y501.length < 1759218604441
                 ·
                  rw [if_pos c47] at H
                  have LMc47 := Aside0.mk c47
                  clear c47
                  obtain ⟨y505, hy505⟩ : ∃ y_ : List (S42), y_ = (y498 ++ y501) := ⟨_, rfl⟩
                  replace H : (if 0 ≤ (wrap64 ((rd t480 (ji42)) + 1)) then (if (wrap64 ((rd t480 (ji42)) + 1)) ≤ (t479.length : Int) then ((some (t479.drop ((wrap64 ((rd t480 (ji42)) + 1)) : Int).toNat : List (S42))).bind fun y508 => (if y505.length + y508.length < 1759218604441 then (laws_FnRealTime.l1 kj36 t480 (rd t480 (ji42)) (y505 ++ y508) (([] : List Int)) 0) else (none))) else (none)) else (none)) = some r := by first | (rw [hy505]; with_reducible exact H) | (have H2_ := (Option.bind_some _ _).symm.trans H; rw [hy505]; with_reducible exact H2_) | (have H2_ := (Option.bind_some _ _).symm.trans H; with_reducible exact H2_) | with_reducible exact H | (rw [hy505]; exact H) | exact H
                  have Ny505 := Aside0.mk hy505
                  clear hy505
                  obtain ⟨ji48, hji48⟩ : ∃ j_ : Int, (wrap64 ((rd t480 (ji42)) + 1)) = j_ := ⟨_, rfl⟩
                  replace H : (if 0 ≤ (ji48) then (if (ji48) ≤ (t479.length : Int) then ((some (t479.drop ((ji48) : Int).toNat : List (S42))).bind fun y508 => (if y505.length + y508.length < 1759218604441 then (laws_FnRealTime.l1 kj36 t480 (rd t480 (ji42)) (y505 ++ y508) (([] : List Int)) 0) else (none))) else (none)) else (none)) = some r := by first | (rw [hji48] at H; exact H) | (simp only [hji48] at H ⊢; exact H)
                  have hji48w : (IntKind.i64.wrap ((rd t480 (ji42)) + 1)) = ji48 := (i64_w _).trans hji48
                  by_cases c49 : 0 ≤ (ji48)
                  ·
                   rw [if_pos c49] at H
                   have c49b0 := eq_true c49
                   have c49b1 : decide (0 ≤ (ji48)) = true := decide_eq_true c49
                   clear c49
                   by_cases c50 : (ji48) ≤ (t479.length : Int)
                   ·
                    rw [if_pos c50] at H
                    have c50b0 := eq_true c50
                    have c50b1 : decide ((ji48) ≤ (t479.length : Int)) = true := decide_eq_true c50
                    clear c50
                    obtain ⟨y508, hy508⟩ : ∃ y_ : List (S42), y_ = (t479.drop ((ji48) : Int).toNat) := ⟨_, rfl⟩
                    replace H : (if y505.length + y508.length < 1759218604441 then (laws_FnRealTime.l1 kj36 t480 (rd t480 (ji42)) (y505 ++ y508) (([] : List Int)) 0) else (none)) = some r := by first | (rw [hy508]; with_reducible exact H) | (have H2_ := (Option.bind_some _ _).symm.trans H; rw [hy508]; with_reducible exact H2_) | (have H2_ := (Option.bind_some _ _).symm.trans H; with_reducible exact H2_) | with_reducible exact H | (rw [hy508]; exact H) | exact H
                    have Ny508 := Aside0.mk hy508
                    clear hy508
                    by_cases c51 : y505.length + y508.length < 1759218604441
                    ·
                     rw [if_pos c51] at H
                     have LMc51 := Aside0.mk c51
                     clear c51
                     obtain ⟨y512, hy512⟩ : ∃ y_ : List (S42), y_ = (y505 ++ y508) := ⟨_, rfl⟩
                     replace H : (laws_FnRealTime.l1 kj36 t480 (rd t480 (ji42)) y512 (([] : List Int)) 0) = some r := by first | (rw [hy512]; with_reducible exact H) | (have H2_ := (Option.bind_some _ _).symm.trans H; rw [hy512]; with_reducible exact H2_) | (have H2_ := (Option.bind_some _ _).symm.trans H; with_reducible exact H2_) | with_reducible exact H | (rw [hy512]; exact H) | exact H
                     have Ny512 := Aside0.mk hy512
                     clear hy512
                     obtain ⟨y515, hy515⟩ : ∃ y_ : List Int, y_ = (([] : List Int)) := ⟨_, rfl⟩
                     replace H : (laws_FnRealTime.l1 kj36 t480 (rd t480 (ji42)) y512 y515 0) = some r := by first | (rw [hy515]; with_reducible exact H) | (have H2_ := (Option.bind_some _ _).symm.trans H; rw [hy515]; with_reducible exact H2_) | (have H2_ := (Option.bind_some _ _).symm.trans H; with_reducible exact H2_) | with_reducible exact H | (rw [hy515]; exact H) | exact H
                     have Ny515 := Aside0.mk hy515
                     clear hy515
                     have H' := Aside0.mk H
                     clear H
                     have p497 : 0 ≤ ((ji42) : Int) := of_decide_eq_true (by first | (with_reducible assumption) | assumption)
                     have q497 : (ji42) < (t480.length : Int) := of_decide_eq_true (by first | (with_reducible assumption) | assumption)
                     obtain ⟨ad497, e497, hx497_0⟩ := Kd.at_int (Kd.R_reads' HO_4.out).2.2 (ji42) p497 q497
                     cases e497
                     replace p497 := eq_true p497
                     replace q497 := eq_true q497
                     go_wp2_with (first | ((with_reducible refine gate_dst (N := 99) rfl ?_); (try (refine gate_guard (by rfl) ?_; dsimp only)); refine Kd.R_lit k42 _ 42 ?hg (N := 99) ?hd (xs := ([] : List (S42))) (inner := []) (ok := fun _ => True) (okp := fun _ => True) ?hr ?hp (fun _ hk => hk) trivial (Below.refl _ _) (Nat.le_refl _) (by simp) ?_; (case hd => rfl); (case hg => rfl); (case hr => first | (go_simp; done) | (go_simp; rfl)); (case hp => exact (Reps.none _ _)); intro v499 w52 ho53 hb hg_ hnew_; clear hg_ hnew_; (first | rw [← Ny498.out] at ho53 | (simp only [Int.reduceToNat] at ho53; rw [← Ny498.out] at ho53)); have n0_ := Aside0.mk (Kd.R_elder' (kr HO_3.out) (Kd.R_base ho53) hb); have n1_ := Aside0.mk (Kd.R_below (kr HO_4.out) hb); have n2_ := Aside0.mk (Kd.R_lower (Kd.R_new' ho53 (Kd.R_lt (kr HO_3.out))) (below_size (bp HB.out))); have n3_ := an0 HB hb; clear HO_3; clear HO_4; clear HB; have HO_3 := n0_; have HO_4 := n1_; have HO500 := n2_; have HB := n3_; clear n0_ n1_ n2_ n3_; clear hb ho53; have q54 : ((rd t480 (ji42)) : Int) ≤ ((t479.length : Int) : Int) := of_decide_eq_true (by first | (with_reducible assumption) | assumption); obtain ⟨i054, hi054, _, hsz54, _⟩ := info_parts info42; have hroom54 : t479.length ≤ co10 := (Kd.R_reads' HO_3.out).2.1; have hC54 : Kd.C k42 _ Ao10 t479.length t479 := (Kd.R_reads' HO_3.out).2.2; have hcut54 := cut_to (P := Try.prog) 32 42 .i64 Try.underlying32 hi054 Ao10 t479.length co10 (rd t480 (ji42)) (of_decide_eq_true (by first | (with_reducible assumption) | assumption)) q54 hroom54; have hr54 := Kd.C_take (m := ((rd t480 (ji42)) : Int).toNat) hC54 (by omega); have hy54 : y501.length = ((rd t480 (ji42)) : Int).toNat := (by rw [Ny501.out, List.length_take]; omega); rw [← Ny501.out] at hr54; rw [← hy54] at hcut54; have HR504 := Aside0.mk hr54; have HC504 := Aside0.mk (show y501.length ≤ co10 from by omega); clear hr54 hC54 hroom54 hi054 hsz54; have KY54 := Aside0.mk hy54; clear hy54; have KL54 := Aside0.mk (show ((rd t480 (ji42)) : Int).toNat ≤ t479.length from by omega); replace q54 := eq_true q54) | ((with_reducible refine gate_builtin (b := .append) (xs := #[.tmp 99, .tmp 102]) rfl ?_); (try (refine gate_guard (by rfl) ?_; dsimp only)); at_builtin; refine Kd.R_append_rows k42 (w0 := w) w.heap.size rfl (.tmp 99) (.tmp 102) 32 42 (.agg #[(.int .i64 0), (.int .i64 0), (.int .i64 0), (.string ⟨#[]⟩), (.int .i64 0), (.int .i64 0), (.int .i64 0), (.int .i64 0), (.int .i64 0)]) 80 rfl Try.underlying32 info42 rfl (by decide) (by omega) v499 y498 y501 _ _ _ (fun k_ => some k_ ≠ (.slice Ao10 t479.length co10 : Value).ownBlock) (fun _ => False) rfl rfl ?aO ?aR (fun _ _ h => h) (fun _ h => h.elim) ?aF ?aB ?aS ?aL ?_; (case aR => repeat (first | exact (laws_FnRealTime.s1 HR504.out) | (with_reducible refine Kd.C_alloc ?_ _) | (with_reducible refine Kd.C_drewN ?_ _) | (with_reducible refine Kd.C_drew ?_))); (case aB => exact (bp HB.out)); (case aF => exact (fun k_ hk => Kd.fresh' (Kd.R_lt (kr HO_3.out)) k_ hk)); (case aO => exact (by (with_reducible repeat (first | apply Kd.R_alloc | apply Kd.R_drewN | apply Kd.R_drew)); exact Kd.R_mono HO500.out (fun _ hk => hk.2))); (case aS => exact (below_size (bp HB.out))); (case aL => have := LMc47.out; omega); intro v506 w55 ho hb hg hat; rw [← Ny505.out] at ho; have n0_ := Aside0.mk (Kd.R_after (ok := (fun _ => True)) (kr HO_3.out) hg hat); have n1_ := Aside0.mk (Kd.R_over' (kr HO_4.out) (Kd.R_typed (kr HO500.out)) (by decide) hg); have n2_ := Aside0.mk (hb); have n3_ := Aside0.mk ((show Kd.C k42 w55 Ao10 y501.length y501 from by rw [Ny501.out]; exact Kd.C_take (m := ((rd t480 (ji42)) : Int).toNat) ((Kd.R_reads' (Kd.R_after (ok := (fun _ => True)) (kr HO_3.out) hg hat)).2.2) KL54.out)); have n4_ := Aside0.mk (ho); clear HO_3; clear HO_4; clear HB; clear HR504; clear HO500; have HO_3 := n0_; have HO_4 := n1_; have HB := n2_; have HR504 := n3_; have HO507 := n4_; clear n0_ n1_ n2_ n3_ n4_; clear ho hb hg hat; have q56 : ((ji48) : Int) ≤ ((t479.length : Int) : Int) := of_decide_eq_true (by first | (with_reducible assumption) | assumption); obtain ⟨i056, hi056, _, hsz56, _⟩ := info_parts info42; have hroom56 : t479.length ≤ co10 := (Kd.R_reads' HO_3.out).2.1; have hC56 : Kd.C k42 _ Ao10 t479.length t479 := (Kd.R_reads' HO_3.out).2.2; have q056 : (0 : Int) ≤ ((ji48) : Int) := of_decide_eq_true (by first | (with_reducible assumption) | assumption); have hcut56 := cut_from (P := Try.prog) 32 42 .i64 Try.underlying32 hi056 9 hsz56 Ao10 t479.length co10 (ji48) q056 q56; have hr56 := Kd.C_drop (m := ((ji48) : Int).toNat) (c := co10) hC56 (by omega) hroom56; obtain ⟨A56, hA56⟩ : ∃ A_, A_ = (if co10 = ((ji48) : Int).toNat then Ao10 else (Ao10 : Option Addr).map (·.add (((ji48) : Int).toNat * 9))) := ⟨_, rfl⟩; obtain ⟨c56, hc56⟩ : ∃ c_, c_ = co10 - ((ji48) : Int).toNat := ⟨_, rfl⟩; have hy56 : y508.length = t479.length - ((ji48) : Int).toNat := (by rw [Ny508.out, List.length_drop] <;> omega); rw [show (t479).drop ((ji48) : Int).toNat = y508 from Ny508.out.symm] at hr56; replace hr56 : Kd.C k42 _ A56 y508.length y508 := (by rw [hA56]; exact hr56); rw [← hy56, ← hA56, ← hc56] at hcut56; have HR511 := Aside0.mk hr56; have HC511 := Aside0.mk (show y508.length ≤ c56 from by rw [hy56, hc56]; exact Nat.sub_le_sub_right hroom56 _); clear hr56 hC56 hroom56 hi056 hsz56 hc56; have KY56 := Aside0.mk hy56; have KA56 := Aside0.mk hA56; clear hy56 hA56; have KL56 := Aside0.mk (show ((ji48) : Int).toNat ≤ t479.length from by omega); replace q56 := eq_true q56) | ((with_reducible refine gate_builtin (b := .append) (xs := #[.tmp 104, .tmp 108]) rfl ?_); (try (refine gate_guard (by rfl) ?_; dsimp only)); at_builtin; refine Kd.R_append_rows k42 (w0 := w) w.heap.size rfl (.tmp 104) (.tmp 108) 32 42 (.agg #[(.int .i64 0), (.int .i64 0), (.int .i64 0), (.string ⟨#[]⟩), (.int .i64 0), (.int .i64 0), (.int .i64 0), (.int .i64 0), (.int .i64 0)]) 80 rfl Try.underlying32 info42 rfl (by decide) (by omega) v506 y505 y508 _ _ _ (fun k_ => some k_ ≠ (.slice Ao10 t479.length co10 : Value).ownBlock) (fun _ => False) rfl rfl ?aO ?aR (fun _ _ h => h) (fun _ h => h.elim) ?aF ?aB ?aS ?aL ?_; (case aR => repeat (first | exact (laws_FnRealTime.s1 HR511.out) | (with_reducible refine Kd.C_alloc ?_ _) | (with_reducible refine Kd.C_drewN ?_ _) | (with_reducible refine Kd.C_drew ?_))); (case aB => exact (bp HB.out)); (case aF => exact (fun k_ hk => Kd.fresh' (Kd.R_lt (kr HO_3.out)) k_ hk)); (case aO => exact (kr HO507.out)); (case aS => exact (below_size (bp HB.out))); (case aL => have := LMc51.out; omega); intro v513 w57 ho hb hg hat; rw [← Ny512.out] at ho; have n0_ := Aside0.mk (Kd.R_after (ok := (fun _ => True)) (kr HO_3.out) hg hat); have n1_ := Aside0.mk (Kd.R_over' (kr HO_4.out) (Kd.R_typed (kr HO507.out)) (by decide) hg); have n2_ := Aside0.mk (hb); have n3_ := Aside0.mk ((show Kd.C k42 w57 Ao10 y501.length y501 from by rw [Ny501.out]; exact Kd.C_take (m := ((rd t480 (ji42)) : Int).toNat) ((Kd.R_reads' (Kd.R_after (ok := (fun _ => True)) (kr HO_3.out) hg hat)).2.2) KL54.out)); have n4_ := Aside0.mk ((show Kd.C k42 w57 A56 y508.length y508 from by rw [Ny508.out, KA56.out]; exact Kd.C_drop (m := ((ji48) : Int).toNat) (c := co10) ((Kd.R_reads' (Kd.R_after (ok := (fun _ => True)) (kr HO_3.out) hg hat)).2.2) KL56.out ((Kd.R_reads' (Kd.R_after (ok := (fun _ => True)) (kr HO_3.out) hg hat)).2.1))); have n5_ := Aside0.mk (ho); clear HO_3; clear HO_4; clear HB; clear HR504; clear HR511; clear HO507; have HO_3 := n0_; have HO_4 := n1_; have HB := n2_; have HR504 := n3_; have HR511 := n4_; have HO514 := n5_; clear n0_ n1_ n2_ n3_ n4_ n5_; clear ho hb hg hat) | ((with_reducible refine gate_dst (N := 110) rfl ?_); (try (refine gate_guard (by rfl) ?_; dsimp only)); refine Kd.R_lit (Kd.int .i64) _ 3 ?hg (N := 110) ?hd (xs := ([] : List Int)) (inner := []) (ok := fun _ => True) (okp := fun _ => True) ?hr ?hp (fun _ hk => hk) trivial (Below.refl _ _) (Nat.le_refl _) (by simp) ?_; (case hd => rfl); (case hg => rfl); (case hr => first | (go_simp; done) | (go_simp; rfl)); (case hp => exact (Reps.none _ _)); intro v516 w58 ho59 hb hg_ hnew_; clear hg_ hnew_; (first | rw [← Ny515.out] at ho59 | (simp only [Int.reduceToNat] at ho59; rw [← Ny515.out] at ho59)); have n0_ := Aside0.mk (Kd.R_below (kr HO_3.out) hb); have n1_ := Aside0.mk (Kd.R_elder' (kr HO_4.out) (Kd.R_base ho59) hb); have n2_ := Aside0.mk (Kd.R_below (kr HO514.out) hb); have n3_ := Aside0.mk (Kd.R_lower (Kd.R_new' ho59 (Kd.R_lt (kr HO_4.out))) (below_size (bp HB.out))); have n4_ := Aside0.mk (Kd.C_below (laws_FnRealTime.s1 HR504.out) hb); have n5_ := Aside0.mk (Kd.C_below (laws_FnRealTime.s1 HR511.out) hb); have n6_ := an0 HB hb; clear HO_3; clear HO_4; clear HO514; clear HR504; clear HR511; clear HB; have HO_3 := n0_; have HO_4 := n1_; have HO514 := n2_; have HO517 := n3_; have HR504 := n4_; have HR511 := n5_; have HB := n6_; clear n0_ n1_ n2_ n3_ n4_ n5_ n6_; clear hb ho59))
                     go_loopg [10, 11] kj36 (fun kq v10 v11 w' => ∃ (x10_4 : List Int) (x11_4 : Int), v11 = .int .i64 x11_4 ∧ Aside0 (laws_FnRealTime.l1 kq t480 (rd t480 (ji42)) y512 x10_4 x11_4 = some r) ∧ Aside0 (kq ≤ kj36) ∧ Aside0 (Kd.R (Kd.int .i64) 3 w' w.heap.size (fun k_ => some k_ ≠ (v10 : Value).ownBlock) (.slice (some ad497) t480.length co11) t480) ∧ Aside0 (Kd.R k42 42 w' w.heap.size (fun _ => True) v513 y512) ∧ Aside0 (Kd.R (Kd.int .i64) 3 w' w.heap.size (fun k_ => some k_ ≠ ((.slice (some ad497) t480.length co11) : Value).ownBlock) v10 x10_4) ∧ Aside0 (Below w.heap.size w w'))
                     case atStart => exact ⟨(y515), (0), (by first | rfl | (simp; done) | (simp [*]; done) | (simp [bne_nil_, beq_nil_]; done)), H', ⟨Nat.le_refl _⟩, ⟨by (with_reducible repeat (first | apply Kd.R_alloc | apply Kd.R_drewN | apply Kd.R_drew)); exact Kd.R_mono HO_4.out (fun _ hk => hk.2)⟩, ⟨by (with_reducible repeat (first | apply Kd.R_alloc | apply Kd.R_drewN | apply Kd.R_drew)); exact Kd.R_mono HO514.out (fun _ hk => trivial)⟩, ⟨by (with_reducible repeat (first | apply Kd.R_alloc | apply Kd.R_drewN | apply Kd.R_drew)); exact Kd.R_mono HO517.out (fun _ hk => hk.2)⟩, ⟨bp HB.out⟩⟩
                     case round =>
                      clear H'
                      try clear c1
                      try clear c2
                      try clear p2
                      try clear c3
                      try clear c4
                      try clear p4
                      try clear q4
                      try clear hx4
                      try clear c5
                      try clear q5
                      try clear p6
                      try clear c14
                      try clear c14b0
                      try clear c15
                      try clear c16
                      try clear c17
                      try clear c18
                      try clear c20
                      try clear c24
                      try clear c25
                      try clear c26
                      try clear c27
                      try clear c28
                      try clear c35
                      try clear c36
                      try clear c38
                      try clear c39
                      try clear c43
                      try clear c43b0
                      try clear c44
                      try clear c44b0
                      try clear c45
                      try clear c45b0
                      try clear c45b1
                      try clear c46
                      try clear c46b0
                      try clear c46b1
                      try clear c47
                      try clear p48
                      try clear q48
                      try clear hx48
                      try clear c49
                      try clear c49b0
                      try clear c49b1
                      try clear p49
                      try clear q49
                      try clear hx49
                      try clear c50
                      try clear c50b0
                      try clear c50b1
                      try clear c51
                      try clear q54
                      try clear c56
                      try clear q56
                      try clear hx489_0
                      try clear hx490_0
                      try clear hx490_1
                      try clear hx490_2
                      try clear hx490_3
                      try clear hx490_4
                      try clear hx490_5
                      try clear hx490_6
                      try clear hx490_7
                      try clear hx490_8
                      try clear hx497_0
                      try clear p2
                      try clear p4
                      try clear p489
                      try clear p490
                      try clear p497
                      try clear p6
                      try clear q056
                      try clear q4
                      try clear q489
                      try clear q490
                      try clear q497
                      try clear q54
                      try clear q56
                      obtain ⟨x10_4, x11_4, rfl, HA, HK4, HO_4, HO_9, HO_10, HB⟩ := hrel
                      cases gk with
                      | zero => exact absurd HA.out (by simp [laws_FnRealTime.l1])
                      | succ k4 =>
                       have H := HA.out
                       clear HA
                       simp only [laws_FnRealTime.l1] at H
                       by_cases c60 : (wrap64 (x11_4 + 1)) < (t480.length : Int)
                       ·
                        rw [if_pos c60] at H
                        have c60b0 : decide ((wrap64 (x11_4 + 1)) < (t480.length : Int)) = true := decide_eq_true c60
                        clear c60
                        by_cases c61 : 0 ≤ x11_4
                        ·
                         rw [if_pos c61] at H
                         have c61b0 : decide (0 ≤ x11_4) = true := decide_eq_true c61
                         clear c61
                         by_cases c62 : x11_4 < (t480.length : Int)
                         ·
                          rw [if_pos c62] at H
                          have c62b0 : decide (x11_4 < (t480.length : Int)) = true := decide_eq_true c62
                          clear c62
                          by_cases c63 : (rd t480 x11_4) > (rd t480 (ji42))
                          ·
                           rw [if_pos c63] at H
                           have c63b0 : decide ((rd t480 (ji42)) < (rd t480 x11_4)) = true := decide_eq_true c63
                           clear c63
                           by_cases c64 : x10_4.length < 17592186044416
                           ·
                            rw [if_pos c64] at H
                            have LMc64 := Aside0.mk c64
                            clear c64
                            obtain ⟨y519, hy519⟩ : ∃ y_ : List Int, y_ = (x10_4 ++ [wrap64 ((rd t480 x11_4) - 1)]) := ⟨_, rfl⟩
                            replace H : (laws_FnRealTime.l1 k4 t480 (rd t480 (ji42)) y512 y519 (wrap64 (x11_4 + 1))) = some r := by first | (rw [hy519]; with_reducible exact H) | (have H2_ := (Option.bind_some _ _).symm.trans H; rw [hy519]; with_reducible exact H2_) | (have H2_ := (Option.bind_some _ _).symm.trans H; with_reducible exact H2_) | with_reducible exact H | (rw [hy519]; exact H) | exact H
                            have Ny519 := Aside0.mk hy519
                            clear hy519
                            have H' := Aside0.mk H
                            clear H
                            have p518 : 0 ≤ (x11_4 : Int) := of_decide_eq_true (by first | (with_reducible assumption) | assumption)
                            have q518 : x11_4 < (t480.length : Int) := of_decide_eq_true (by first | (with_reducible assumption) | assumption)
                            obtain ⟨ad518, e518, hx518_0⟩ := Kd.at_int (Kd.R_reads' HO_4.out).2.2 x11_4 p518 q518
                            obtain rfl : ad497 = ad518 := (by injection e518)
                            replace p518 := eq_true p518
                            replace q518 := eq_true q518
                            go_wp2_with (first | ((with_reducible refine gate_builtin (b := .append) (xs := #[.tmp 127, .tmp 129]) rfl ?_); (try (refine gate_guard (by rfl) ?_; dsimp only)); at_builtin; refine Kd.R_append (Kd.int .i64) (w0 := w) w.heap.size rfl (.tmp 127) (.tmp 129) 33 3 (.int .i64 0) 8 rfl Try.underlying33 info3 rfl (by decide) (by omega) u10 x10_4 (wrap64 ((rd t480 x11_4) - 1)) [.int .i64 (wrap64 ((rd t480 x11_4) - 1))] (fun k_ => some k_ ≠ (.slice (some ad497) t480.length co11 : Value).ownBlock) (fun _ => False) rfl rfl ?aP (fun _ hk => hk.elim) ?aF ?aO ?aB ?aS ?aL ?_; (case aP => exact rfl); (case aB => exact (bp HB.out)); (case aF => exact (fun k_ hk => Kd.fresh' (Kd.R_lt (kr HO_4.out)) k_ hk)); (case aO => exact (kr HO_10.out)); (case aS => exact (below_size (bp HB.out))); (case aL => have := LMc64.out; omega); intro v520 w65 ho hb hg hat; rw [← Ny519.out] at ho; have n0_ := Aside0.mk (Kd.R_after (ok := (fun _ => True)) (by (with_reducible repeat (first | apply Kd.R_alloc | apply Kd.R_drewN | apply Kd.R_drew)); exact Kd.R_mono HO_4.out (fun _ hk => ⟨trivial, hk⟩)) hg hat); have n1_ := Aside0.mk (Kd.R_over' (kr HO_9.out) (Kd.R_typed (kr HO_10.out)) (by decide) hg); have n2_ := Aside0.mk (hb); have n3_ := Aside0.mk (ho); clear HO_4; clear HO_9; clear HB; clear HO_10; have HO_4 := n0_; have HO_9 := n1_; have HB := n2_; have HO521 := n3_; clear n0_ n1_ n2_ n3_; clear ho hb hg hat))
                            go_roundg k4
                            case measure => have := HK1.out; have := HJ33.out; have := HJ36.out; have := HK4.out; omega
                            case rel => exact ⟨(y519), (wrap64 (x11_4 + 1)), (by first | rfl | (simp; done) | (simp [*]; done) | (simp [bne_nil_, beq_nil_]; done)), H', ⟨by have := HK1.out; have := HJ33.out; have := HJ36.out; have := HK4.out; omega⟩, ⟨by (with_reducible repeat (first | apply Kd.R_alloc | apply Kd.R_drewN | apply Kd.R_drew)); exact Kd.R_mono HO_4.out (fun _ hk => hk.2)⟩, ⟨by (with_reducible repeat (first | apply Kd.R_alloc | apply Kd.R_drewN | apply Kd.R_drew)); exact HO_9.out⟩, ⟨by (with_reducible repeat (first | apply Kd.R_alloc | apply Kd.R_drewN | apply Kd.R_drew)); exact HO521.out⟩, ⟨bp HB.out⟩⟩
                           ·
                            rw [if_neg c64] at H
                            exact absurd H (by simp)
                          ·
                           rw [if_neg c63] at H
                           have c63b0 : decide ((rd t480 (ji42)) < (rd t480 x11_4)) = false := decide_eq_false c63
                           clear c63
                           by_cases c66 : x10_4.length < 17592186044416
                           ·
                            rw [if_pos c66] at H
                            have LMc66 := Aside0.mk c66
                            clear c66
                            obtain ⟨y522, hy522⟩ : ∃ y_ : List Int, y_ = (x10_4 ++ [rd t480 x11_4]) := ⟨_, rfl⟩
                            replace H : (laws_FnRealTime.l1 k4 t480 (rd t480 (ji42)) y512 y522 (wrap64 (x11_4 + 1))) = some r := by first | (rw [hy522]; with_reducible exact H) | (have H2_ := (Option.bind_some _ _).symm.trans H; rw [hy522]; with_reducible exact H2_) | (have H2_ := (Option.bind_some _ _).symm.trans H; with_reducible exact H2_) | with_reducible exact H | (rw [hy522]; exact H) | exact H
                            have Ny522 := Aside0.mk hy522
                            clear hy522
                            have H' := Aside0.mk H
                            clear H
                            have p518 : 0 ≤ (x11_4 : Int) := of_decide_eq_true (by first | (with_reducible assumption) | assumption)
                            have q518 : x11_4 < (t480.length : Int) := of_decide_eq_true (by first | (with_reducible assumption) | assumption)
                            obtain ⟨ad518, e518, hx518_0⟩ := Kd.at_int (Kd.R_reads' HO_4.out).2.2 x11_4 p518 q518
                            obtain rfl : ad497 = ad518 := (by injection e518)
                            replace p518 := eq_true p518
                            replace q518 := eq_true q518
                            go_wp2_with (first | ((with_reducible refine gate_builtin (b := .append) (xs := #[.tmp 127, .tmp 129]) rfl ?_); (try (refine gate_guard (by rfl) ?_; dsimp only)); at_builtin; refine Kd.R_append (Kd.int .i64) (w0 := w) w.heap.size rfl (.tmp 127) (.tmp 129) 33 3 (.int .i64 0) 8 rfl Try.underlying33 info3 rfl (by decide) (by omega) u10 x10_4 (rd t480 x11_4) [.int .i64 (rd t480 x11_4)] (fun k_ => some k_ ≠ (.slice (some ad497) t480.length co11 : Value).ownBlock) (fun _ => False) rfl rfl ?aP (fun _ hk => hk.elim) ?aF ?aO ?aB ?aS ?aL ?_; (case aP => exact rfl); (case aB => exact (bp HB.out)); (case aF => exact (fun k_ hk => Kd.fresh' (Kd.R_lt (kr HO_4.out)) k_ hk)); (case aO => exact (kr HO_10.out)); (case aS => exact (below_size (bp HB.out))); (case aL => have := LMc66.out; omega); intro v523 w67 ho hb hg hat; rw [← Ny522.out] at ho; have n0_ := Aside0.mk (Kd.R_after (ok := (fun _ => True)) (by (with_reducible repeat (first | apply Kd.R_alloc | apply Kd.R_drewN | apply Kd.R_drew)); exact Kd.R_mono HO_4.out (fun _ hk => ⟨trivial, hk⟩)) hg hat); have n1_ := Aside0.mk (Kd.R_over' (kr HO_9.out) (Kd.R_typed (kr HO_10.out)) (by decide) hg); have n2_ := Aside0.mk (hb); have n3_ := Aside0.mk (ho); clear HO_4; clear HO_9; clear HB; clear HO_10; have HO_4 := n0_; have HO_9 := n1_; have HB := n2_; have HO524 := n3_; clear n0_ n1_ n2_ n3_; clear ho hb hg hat))
                            go_roundg k4
                            case measure => have := HK1.out; have := HJ33.out; have := HJ36.out; have := HK4.out; omega
                            case rel => exact ⟨(y522), (wrap64 (x11_4 + 1)), (by first | rfl | (simp; done) | (simp [*]; done) | (simp [bne_nil_, beq_nil_]; done)), H', ⟨by have := HK1.out; have := HJ33.out; have := HJ36.out; have := HK4.out; omega⟩, ⟨by (with_reducible repeat (first | apply Kd.R_alloc | apply Kd.R_drewN | apply Kd.R_drew)); exact Kd.R_mono HO_4.out (fun _ hk => hk.2)⟩, ⟨by (with_reducible repeat (first | apply Kd.R_alloc | apply Kd.R_drewN | apply Kd.R_drew)); exact HO_9.out⟩, ⟨by (with_reducible repeat (first | apply Kd.R_alloc | apply Kd.R_drewN | apply Kd.R_drew)); exact HO524.out⟩, ⟨bp HB.out⟩⟩
                           ·
                            rw [if_neg c66] at H
                            exact absurd H (by simp)
                         ·
                          rw [if_neg c62] at H
                          exact absurd H (by simp)
                        ·
                         rw [if_neg c61] at H
                         exact absurd H (by simp)
                       ·
                        rw [if_neg c60] at H
                        have c60b0 : decide ((wrap64 (x11_4 + 1)) < (t480.length : Int)) = false := decide_eq_false c60
                        clear c60
                        replace H := Option.bind_eq_some_iff.mp H
                        obtain ⟨t525, A680, H⟩ := H
                        replace H : (some t525) = some r := H
                        have A68 := Aside0.mk A680
                        clear A680
                        obtain rfl := Option.some.inj H
                        obtain ⟨Ao69, co69, eo69⟩ := Kd.R_slice HO_9.out
                        subst eo69
                        obtain ⟨Ao70, co70, eo70⟩ := Kd.R_slice HO_10.out
                        subst eo70
                        go_wp2_with (first | ((with_reducible refine gate_callee (f := 21) rfl ?_); refine gsl (some 133) rfl Try.func21 #[.slice Ao69 y512.length co69, .slice Ao70 x10_4.length co70] rfl ?_; (with_reducible refine (impl_RealTime.calls k4 _ _ y512 _ _ x10_4 t525 _ ?side1 ?side2 ?side3 ?side4 A68.out).mono ?_); (case side1 => exact laws_FnRealTime.s0 HO_9.out); (case side2 => exact (Kd.R_reads' HO_9.out).2.1); (case side3 => exact laws_FnRealTime.s0 HO_10.out); (case side4 => exact (Kd.R_reads' HO_10.out).2.1); rintro e w71 ⟨rfl, hb⟩; refine ⟨_, rfl, ?_⟩; have n0_ := Aside0.mk (Kd.R_below (kr HO_4.out) hb); have n1_ := Aside0.mk (Kd.R_below (kr HO_9.out) hb); have n2_ := Aside0.mk (Kd.R_below (kr HO_10.out) hb); have n3_ := an0 HB hb; clear HO_4; clear HO_9; clear HO_10; clear HB; have HO_4 := n0_; have HO_9 := n1_; have HO_10 := n2_; have HB := n3_; clear n0_ n1_ n2_ n3_; (try clear hb); (try clear hb2); (try clear hk); (try clear hi)))
                        go_ret
                        exact ⟨by first | rfl | (simp [errW_none, errW_some] <;> rfl) | (simp only [← hji42, ← hji48]; first | rfl | (simp [errW_none, errW_some] <;> rfl)) | (simp [*, errW_none, errW_some] <;> rfl) | (simp only [IntKind.wrap_u8, show ∀ n_ : Int, wrap64 (n_ % 256) = n_ % 256 from fun n_ => by unfold wrap64; omega]; rfl), bp HB.out⟩
                    ·
                     rw [if_neg c51] at H
                     exact absurd H (by simp)
                   ·
                    rw [if_neg c50] at H
                    exact absurd H (by simp)
                  ·
                   rw [if_neg c49] at H
                   exact absurd H (by simp)
                 ·
                  rw [if_neg c47] at H
                  exact absurd H (by simp)
                ·
                 rw [if_neg c46] at H
                 exact absurd H (by simp)
               ·
                rw [if_neg c45] at H
                exact absurd H (by simp)
              ·
               rw [if_neg c44] at H
               exact absurd H (by simp)
             ·
              rw [if_neg c43] at H
              exact absurd H (by simp)
   ·
    replace c8 := Bool.eq_false_iff.mpr c8
    subst c8
    have H1 : (if t485 = true then (some false) else ((laws_alive.f k).bind fun t488 => (some t488))) = some r := by rw [if_neg (show ¬ (false = true) by decide)] at H; exact H
    clear H
    have H := H1
    clear H1
    by_cases c72 : t485 = true
    ·
     subst c72
     have H1 : (some false) = some r := by rw [if_pos rfl] at H; exact H
     clear H
     have H := H1
     clear H1
     obtain rfl := Option.some.inj H
     exact absurd hrt.out (by simp)
    ·
     replace c72 := Bool.eq_false_iff.mpr c72
     subst c72
     have H1 : ((laws_alive.f k).bind fun t488 => (some t488)) = some r := by rw [if_neg (show ¬ (false = true) by decide)] at H; exact H
     clear H
     have H := H1
     clear H1
     replace H := Option.bind_eq_some_iff.mp H
     obtain ⟨t488, A730, H⟩ := H
     replace H : (some t488) = some r := H
     have A73 := Aside0.mk A730
     clear A730
     obtain rfl := Option.some.inj H
     go_enter Try.func4, Try.ntmps4
     go_wp2_with (first | ((with_reducible refine gate_callee (f := 20) rfl ?_); refine gsl (some 18) rfl Try.func20 #[.slice A0 l0.length c0] rfl ?_; (with_reducible refine (spec_DrawRealTime.calls k _ _ l0 t479 t480 _ ?side1 ?side2 A3.out).mono ?_); (case side1 => exact cc HR0.out); (case side2 => exact HC0.out); rintro e w74 ⟨v481, v483, rfl, ho0, ho1, hb⟩; refine ⟨_, rfl, ?_⟩; have n0_ := Aside0.mk (Kd.R_lower ho0 (below_size (bp HB.out))); have n1_ := Aside0.mk (Kd.R_lower ho1 (below_size (bp HB.out))); have n2_ := an0 HB hb; clear HB; have HO482 := n0_; have HO484 := n1_; have HB := n2_; clear n0_ n1_ n2_; (try clear hb); (try clear hb2); (try clear hk); (try clear hi); (try clear ho0); (try clear ho1); obtain ⟨Ao75, co75, eo75⟩ := Kd.R_slice HO482.out; subst eo75; obtain ⟨Ao76, co76, eo76⟩ := Kd.R_slice HO484.out; subst eo76) | ((with_reducible refine gate_callee (f := 21) rfl ?_); refine gsl (some 23) rfl Try.func21 #[.slice Ao75 t479.length co75, .slice Ao76 t480.length co76] rfl ?_; (with_reducible refine (impl_RealTime.calls k _ _ t479 _ _ t480 false _ ?side1 ?side2 ?side3 ?side4 A4.out).mono ?_); (case side1 => exact laws_FnRealTime.s0 HO482.out); (case side2 => exact (Kd.R_reads' HO482.out).2.1); (case side3 => exact laws_FnRealTime.s0 HO484.out); (case side4 => exact (Kd.R_reads' HO484.out).2.1); rintro e w77 ⟨rfl, hb⟩; refine ⟨_, rfl, ?_⟩; have n0_ := Aside0.mk (Kd.R_below (kr HO482.out) hb); have n1_ := Aside0.mk (Kd.R_below (kr HO484.out) hb); have n2_ := an0 HB hb; clear HO482; clear HO484; clear HB; have HO482 := n0_; have HO484 := n1_; have HB := n2_; clear n0_ n1_ n2_; (try clear hb); (try clear hb2); (try clear hk); (try clear hi)) | ((with_reducible refine gate_callee (f := 22) rfl ?_); refine gsl (some 27) rfl Try.func22 #[.slice Ao75 t479.length co75, .slice Ao76 t480.length co76] rfl ?_; (with_reducible refine (spec_RealTime.calls k _ _ t479 _ _ t480 t486 _ ?side1 ?side2 ?side3 ?side4 A5.out).mono ?_); (case side1 => exact laws_FnRealTime.s0 HO482.out); (case side2 => exact (Kd.R_reads' HO482.out).2.1); (case side3 => exact laws_FnRealTime.s0 HO484.out); (case side4 => exact (Kd.R_reads' HO484.out).2.1); rintro e w78 ⟨rfl, hb⟩; refine ⟨_, rfl, ?_⟩; have n0_ := Aside0.mk (Kd.R_below (kr HO482.out) hb); have n1_ := Aside0.mk (Kd.R_below (kr HO484.out) hb); have n2_ := an0 HB hb; clear HO482; clear HO484; clear HB; have HO482 := n0_; have HO484 := n1_; have HB := n2_; clear n0_ n1_ n2_; (try clear hb); (try clear hb2); (try clear hk); (try clear hi)) | ((with_reducible refine gate_callee (f := 23) rfl ?_); refine gsl (some 32) rfl Try.func23 #[.int .i64 (t479.length : Int), .slice Ao76 t480.length co76] rfl ?_; (with_reducible refine (impl_OrderValid.calls k (t479.length : Int) _ _ t480 false _ ?side1 ?side2 A7.out).mono ?_); (case side1 => exact laws_FnRealTime.s0 HO484.out); (case side2 => exact (Kd.R_reads' HO484.out).2.1); rintro e w' ⟨rfl, ⟨nd, rfl⟩⟩; refine ⟨_, rfl, ?_⟩) | (go_at_call 18; (with_reducible refine (laws_alive.calls k  t488 _ A73.out).mono ?_); rintro e w79 ⟨rfl, hb⟩; have n0_ := Aside0.mk (Kd.R_below (kr HO482.out) hb); have n1_ := Aside0.mk (Kd.R_below (kr HO484.out) hb); have n2_ := an0 HB hb; clear HO482; clear HO484; clear HB; have HO482 := n0_; have HO484 := n1_; have HB := n2_; clear n0_ n1_ n2_; (try clear hb); (try clear hb2); (try clear hk); (try clear hi)))
     go_ret
     exact ⟨fe, bp HB.out⟩

/-- THE ONE PURE STATEMENT of laws_FnRealTime: yours. -/
def laws_FnRealTime.Pure : Prop := ∀ (l0 : List Int), l0.length ≤ maxLen → l0.length * 1 ≤ 140737488351232 → (∀ x ∈ l0, (Lit.int .u8 x).wf = true) → ∃ k, laws_FnRealTime.f k l0 = some true
theorem laws_FnRealTime.walk (P : laws_FnRealTime.Pure) (a0 : Option Addr) (len0 cap0 : Nat) (z0 : List Int) (w : World) (w0 : (a0 = none ∧ len0 = 0 ∧ cap0 = 0 ∧ z0 = []) ∨ ∃ x, a0 = some x ∧ len0 ≤ cap0 ∧ cap0 ≤ maxLen ∧ z0.length = cap0 ∧ (∀ i, i < z0.length → w.cell? (x.add i) = some (.int .u8 (z0.getD i 0))) ∧ ∀ n ∈ z0, (Lit.int .u8 n).wf = true) (y0 : len0 * 1 ≤ 140737488351232) :
    Calls Try.prog 4 #[.slice a0 len0 cap0] w fun e w' => e = .returned (.bool true) ∧ Below w.heap.size w w' := by
  obtain ⟨l0, rfl, hr0, hm0, hw0, hc0⟩ := ReadsInt.ofRowC w0
  obtain ⟨k, h⟩ := P l0 hm0 y0 hw0
  refine (laws_FnRealTime.calls k _ _ l0 true w (Kd.C_of_reads (d := (0 : Int)) (h1 := fun _ => rfl) hr0) hc0 h ⟨rfl⟩).mono ?_
  rintro e w' ⟨rfl, hd⟩
  exact ⟨rfl, hd⟩

end Go.Proofs.Ytfeeifefmenlmaa.PFnRealTime
