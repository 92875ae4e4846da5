-- Written by a program of this session, in the manner of the kit's print (wip/pp.py): functions and their contracts.
import Derived.Test.YtfeeifefmenlmaaPFnExactApplyFeedx0
import Derived.Test.YtfeeifefmenlmaaPFnExactApplyFeedx1
namespace Go.Proofs.Ytfeeifefmenlmaa.PFnExactApplyFeed
open Go.RowKit Go.Proofs.YtfeeifefmenlmaaW.PrintWords Go.Proofs.YtfeeifefmenlmaaW.PrintLast Go.Proofs.YtfeeifefmenlmaaW.PrintMore
attribute [local go_sem] binOp_leq_str binOp_gtr_str binOp_geq_str max2_int min2_int max_two min_two max_three min_three max_four min_four   -- for this text's walks alone
set_option linter.unusedVariables false
set_option linter.unusedSimpArgs false

/-! ### spec_FeedValid: function 52 -/
def spec_FeedValid.l0 : Nat → List (S75) → Int → Option (Bool)
  | 0, _, _ => none
  | k + 1, x0, x3 => if x3 < (x0.length : Int) then (if 0 ≤ x3 then (if x3 ≥ 24 then (some false) else ((spec_l1In.f ((rd_T75 x0 x3).f0) 0 23).bind fun t110 => (if t110 = true then ((spec_KeyValid.f k ((rd_T75 x0 x3).f1)).bind fun t111 => (if t111 = true then ((spec_l1In.f ((rd_T75 x0 x3).f2) (-1) 999).bind fun t112 => (if t112 = true then ((spec_l1In.f ((rd_T75 x0 x3).f3) (-1) 999).bind fun t113 => (if t113 = true then (if ((rd_T75 x0 x3).f2) = ((rd_T75 x0 x3).f3) then (some false) else (if x3 > 0 then (if 0 ≤ (wrap64 (x3 - 1)) then (if (wrap64 (x3 - 1)) < (x0.length : Int) then (if ((rd_T75 x0 x3).f0) ≤ ((rd_T75 x0 (wrap64 (x3 - 1))).f0) then (some false) else (spec_FeedValid.l0 k x0 (wrap64 (x3 + 1)))) else (none)) else (none)) else (spec_FeedValid.l0 k x0 (wrap64 (x3 + 1))))) else (some false))) else (some false))) else (some false))) else (some false)))) else (none)) else (some true)
def spec_FeedValid.f (k : Nat) (l0 : List (S75)) : Option (Bool) := spec_FeedValid.l0 k l0 0
theorem spec_FeedValid.mono_l : ∀ k, (∀ y0 y1, LeO (spec_FeedValid.l0 k y0 y1) (spec_FeedValid.l0 (k + 1) y0 y1))
  | 0 => fun _ _ r h => by simp [spec_FeedValid.l0] at h
  | k + 1 => by
    have ih0 := spec_FeedValid.mono_l k
    · intro y0 y1
      unfold spec_FeedValid.l0
      repeat' first
      | (with_reducible exact ih0 _ _)
      | (with_reducible exact spec_KeyValid.mono _ _)
      | (with_reducible exact LeO.refl _)
      | (with_reducible exact LeO.none _)
      | (with_reducible refine LeO.ite ?_ ?_)
      | (with_reducible refine LeO.bind ?_ (fun _ => ?_))
      | exact ih0 _ _
      | exact spec_KeyValid.mono _ _
      | exact LeO.none _
      | refine LeO.ite ?_ ?_
      | refine LeO.bind ?_ (fun _ => ?_)
theorem spec_FeedValid.mono : ∀ a0 k, LeO (spec_FeedValid.f k a0) (spec_FeedValid.f (k + 1) a0) := by
  intro a0 k
  have ih0 := spec_FeedValid.mono_l k
  unfold spec_FeedValid.f
  repeat' first
      | (with_reducible exact ih0 _ _)
      | (with_reducible exact spec_KeyValid.mono _ _)
      | (with_reducible exact LeO.refl _)
      | (with_reducible exact LeO.none _)
      | (with_reducible refine LeO.ite ?_ ?_)
      | (with_reducible refine LeO.bind ?_ (fun _ => ?_))
      | exact ih0 _ _
      | exact spec_KeyValid.mono _ _
      | exact LeO.none _
      | refine LeO.ite ?_ ?_
      | refine LeO.bind ?_ (fun _ => ?_)
def spec_FeedValid.T5 : Bool × List (List Nat × List Nat) := (true, [([], []), ([0], [0]), ([1], [1]), ([2], [2]), ([3, 2], [2, 3]), ([4, 2, 2], [2, 4]), ([5, 2], [2, 5]), ([2, 6], [2, 6]), ([7, 5], [7]), ([8], [8]), ([9, 8], [8, 9]), ([10, 8, 8], [8, 10]), ([11, 8], [8, 11]), ([8, 12], [8, 12]), ([13, 11], [13]), ([14], [14]), ([15, 14], [14, 15]), ([16, 14, 14], [14, 16]), ([17, 14], [14, 17]), ([14, 18], [14, 18]), ([19, 17], [19]), ([20], [20]), ([21, 20], [20, 21]), ([22, 20, 20], [20, 22]), ([23, 20], [20, 23]), ([20, 24], [20, 24]), ([25, 23], [25]), ([26], [26]), ([27, 26], [26, 27]), ([26], [26]), ([29, 26], [26, 29]), ([28, 30, 26], [26, 28, 30]), ([26, 31], [26, 31]), ([32, 26], [32]), ([33], [33]), ([34, 33], [33, 34]), ([35, 33, 33], [33, 35]), ([36], [36]), ([37, 36], [36, 37]), ([36], [36]), ([36], [36]), ([40, 36], [36, 40]), ([39, 41, 36], [36, 39, 41]), ([42, 36], [36, 42]), ([43, 36], [36, 43]), ([38, 44, 36], [36, 38, 44]), ([36, 45, 33], [33, 36, 45]), ([33, 46], [33, 46])])
def spec_FeedValid.B5 : List Nat := [0, 1, 3, 7, 15, 31, 63, 127, 255, 511, 1023, 2047, 4095, 8191, 16383, 32767, 65535, 131071, 262143, 524287, 1048575, 2097151, 4194303, 8388607, 16777215, 33554431, 67108863, 134217727, 268435455, 134217727, 671088639, 2147483647, 4294967295, 8589934591, 17179869183, 34359738367, 68719476735, 137438953471, 274877906943, 137438953471, 137438953471, 1236950581247, 3985729650687, 8383776161791, 17179869183999, 35184372088831, 70368744177663, 140737488355327]
theorem spec_FeedValid.tab5 : rtab .any (opsOf Try.f52 5) = spec_FeedValid.T5 := by kernel_rfl
theorem spec_FeedValid.bits5 : waitsOk spec_FeedValid.T5.2 spec_FeedValid.B5 = true := by kernel_rfl
def spec_FeedValid.m0 : Array Bool := #[o_, o_, o_, o_, o_, o_, o_, o_, o_, o_, o_, o_, o_, o_, o_, o_, o_, o_, o_, o_, o_, o_, o_, o_, o_, o_, o_, o_, o_, o_, o_, o_, o_, o_, o_, o_, o_, o_, o_, o_, o_, o_, o_, o_, o_, o_, o_, o_]
def spec_FeedValid.m1 : Array Bool := #[i_, o_, o_, o_, o_, o_, o_, o_, o_, o_, o_, o_, o_, o_, o_, o_, o_, o_, o_, o_, o_, o_, o_, o_, o_, o_, o_, o_, o_, o_, o_, o_, o_, o_, o_, o_, o_, o_, o_, o_, o_, o_, o_, o_, o_, o_, o_, o_]
def spec_FeedValid.m2 : Array Bool := #[i_, i_, o_, o_, o_, o_, o_, o_, o_, o_, o_, o_, o_, o_, o_, o_, o_, o_, o_, o_, o_, o_, o_, o_, o_, o_, o_, o_, o_, o_, o_, o_, o_, o_, o_, o_, o_, o_, o_, o_, o_, o_, o_, o_, o_, o_, o_, o_]
def spec_FeedValid.m3 : Array Bool := #[i_, i_, i_, o_, o_, o_, o_, o_, o_, o_, o_, o_, o_, o_, o_, o_, o_, o_, o_, o_, o_, o_, o_, o_, o_, o_, o_, o_, o_, o_, o_, o_, o_, o_, o_, o_, o_, o_, o_, o_, o_, o_, o_, o_, o_, o_, o_, o_]
def spec_FeedValid.m4 : Array Bool := #[i_, i_, i_, i_, o_, o_, o_, o_, o_, o_, o_, o_, o_, o_, o_, o_, o_, o_, o_, o_, o_, o_, o_, o_, o_, o_, o_, o_, o_, o_, o_, o_, o_, o_, o_, o_, o_, o_, o_, o_, o_, o_, o_, o_, o_, o_, o_, o_]
def spec_FeedValid.m5 : Array Bool := #[i_, i_, i_, i_, i_, o_, o_, o_, o_, o_, o_, o_, o_, o_, o_, o_, o_, o_, o_, o_, o_, o_, o_, o_, o_, o_, o_, o_, o_, o_, o_, o_, o_, o_, o_, o_, o_, o_, o_, o_, o_, o_, o_, o_, o_, o_, o_, o_]
def spec_FeedValid.m6 : Array Bool := #[i_, i_, i_, i_, i_, i_, o_, o_, o_, o_, o_, o_, o_, o_, o_, o_, o_, o_, o_, o_, o_, o_, o_, o_, o_, o_, o_, o_, o_, o_, o_, o_, o_, o_, o_, o_, o_, o_, o_, o_, o_, o_, o_, o_, o_, o_, o_, o_]
def spec_FeedValid.m7 : Array Bool := #[i_, i_, i_, i_, i_, i_, i_, o_, o_, o_, o_, o_, o_, o_, o_, o_, o_, o_, o_, o_, o_, o_, o_, o_, o_, o_, o_, o_, o_, o_, o_, o_, o_, o_, o_, o_, o_, o_, o_, o_, o_, o_, o_, o_, o_, o_, o_, o_]
def spec_FeedValid.m8 : Array Bool := #[i_, i_, i_, i_, i_, i_, i_, i_, o_, o_, o_, o_, o_, o_, o_, o_, o_, o_, o_, o_, o_, o_, o_, o_, o_, o_, o_, o_, o_, o_, o_, o_, o_, o_, o_, o_, o_, o_, o_, o_, o_, o_, o_, o_, o_, o_, o_, o_]
def spec_FeedValid.m9 : Array Bool := #[i_, i_, i_, i_, i_, i_, i_, i_, i_, o_, o_, o_, o_, o_, o_, o_, o_, o_, o_, o_, o_, o_, o_, o_, o_, o_, o_, o_, o_, o_, o_, o_, o_, o_, o_, o_, o_, o_, o_, o_, o_, o_, o_, o_, o_, o_, o_, o_]
def spec_FeedValid.m10 : Array Bool := #[i_, i_, i_, i_, i_, i_, i_, i_, i_, i_, o_, o_, o_, o_, o_, o_, o_, o_, o_, o_, o_, o_, o_, o_, o_, o_, o_, o_, o_, o_, o_, o_, o_, o_, o_, o_, o_, o_, o_, o_, o_, o_, o_, o_, o_, o_, o_, o_]
def spec_FeedValid.m11 : Array Bool := #[i_, i_, i_, i_, i_, i_, i_, i_, i_, i_, i_, o_, o_, o_, o_, o_, o_, o_, o_, o_, o_, o_, o_, o_, o_, o_, o_, o_, o_, o_, o_, o_, o_, o_, o_, o_, o_, o_, o_, o_, o_, o_, o_, o_, o_, o_, o_, o_]
def spec_FeedValid.m12 : Array Bool := #[i_, i_, i_, i_, i_, i_, i_, i_, i_, i_, i_, i_, o_, o_, o_, o_, o_, o_, o_, o_, o_, o_, o_, o_, o_, o_, o_, o_, o_, o_, o_, o_, o_, o_, o_, o_, o_, o_, o_, o_, o_, o_, o_, o_, o_, o_, o_, o_]
def spec_FeedValid.m13 : Array Bool := #[i_, i_, i_, i_, i_, i_, i_, i_, i_, i_, i_, i_, i_, o_, o_, o_, o_, o_, o_, o_, o_, o_, o_, o_, o_, o_, o_, o_, o_, o_, o_, o_, o_, o_, o_, o_, o_, o_, o_, o_, o_, o_, o_, o_, o_, o_, o_, o_]
def spec_FeedValid.m14 : Array Bool := #[i_, i_, i_, i_, i_, i_, i_, i_, i_, i_, i_, i_, i_, i_, o_, o_, o_, o_, o_, o_, o_, o_, o_, o_, o_, o_, o_, o_, o_, o_, o_, o_, o_, o_, o_, o_, o_, o_, o_, o_, o_, o_, o_, o_, o_, o_, o_, o_]
def spec_FeedValid.m15 : Array Bool := #[i_, i_, i_, i_, i_, i_, i_, i_, i_, i_, i_, i_, i_, i_, i_, o_, o_, o_, o_, o_, o_, o_, o_, o_, o_, o_, o_, o_, o_, o_, o_, o_, o_, o_, o_, o_, o_, o_, o_, o_, o_, o_, o_, o_, o_, o_, o_, o_]
def spec_FeedValid.m16 : Array Bool := #[i_, i_, i_, i_, i_, i_, i_, i_, i_, i_, i_, i_, i_, i_, i_, i_, o_, o_, o_, o_, o_, o_, o_, o_, o_, o_, o_, o_, o_, o_, o_, o_, o_, o_, o_, o_, o_, o_, o_, o_, o_, o_, o_, o_, o_, o_, o_, o_]
def spec_FeedValid.m17 : Array Bool := #[i_, i_, i_, i_, i_, i_, i_, i_, i_, i_, i_, i_, i_, i_, i_, i_, i_, o_, o_, o_, o_, o_, o_, o_, o_, o_, o_, o_, o_, o_, o_, o_, o_, o_, o_, o_, o_, o_, o_, o_, o_, o_, o_, o_, o_, o_, o_, o_]
def spec_FeedValid.m18 : Array Bool := #[i_, i_, i_, i_, i_, i_, i_, i_, i_, i_, i_, i_, i_, i_, i_, i_, i_, i_, o_, o_, o_, o_, o_, o_, o_, o_, o_, o_, o_, o_, o_, o_, o_, o_, o_, o_, o_, o_, o_, o_, o_, o_, o_, o_, o_, o_, o_, o_]
def spec_FeedValid.m19 : Array Bool := #[i_, i_, i_, i_, i_, i_, i_, i_, i_, i_, i_, i_, i_, i_, i_, i_, i_, i_, i_, o_, o_, o_, o_, o_, o_, o_, o_, o_, o_, o_, o_, o_, o_, o_, o_, o_, o_, o_, o_, o_, o_, o_, o_, o_, o_, o_, o_, o_]
def spec_FeedValid.m20 : Array Bool := #[i_, i_, i_, i_, i_, i_, i_, i_, i_, i_, i_, i_, i_, i_, i_, i_, i_, i_, i_, i_, o_, o_, o_, o_, o_, o_, o_, o_, o_, o_, o_, o_, o_, o_, o_, o_, o_, o_, o_, o_, o_, o_, o_, o_, o_, o_, o_, o_]
def spec_FeedValid.m21 : Array Bool := #[i_, i_, i_, i_, i_, i_, i_, i_, i_, i_, i_, i_, i_, i_, i_, i_, i_, i_, i_, i_, i_, o_, o_, o_, o_, o_, o_, o_, o_, o_, o_, o_, o_, o_, o_, o_, o_, o_, o_, o_, o_, o_, o_, o_, o_, o_, o_, o_]
def spec_FeedValid.m22 : Array Bool := #[i_, i_, i_, i_, i_, i_, i_, i_, i_, i_, i_, i_, i_, i_, i_, i_, i_, i_, i_, i_, i_, i_, o_, o_, o_, o_, o_, o_, o_, o_, o_, o_, o_, o_, o_, o_, o_, o_, o_, o_, o_, o_, o_, o_, o_, o_, o_, o_]
def spec_FeedValid.m23 : Array Bool := #[i_, i_, i_, i_, i_, i_, i_, i_, i_, i_, i_, i_, i_, i_, i_, i_, i_, i_, i_, i_, i_, i_, i_, o_, o_, o_, o_, o_, o_, o_, o_, o_, o_, o_, o_, o_, o_, o_, o_, o_, o_, o_, o_, o_, o_, o_, o_, o_]
def spec_FeedValid.m24 : Array Bool := #[i_, i_, i_, i_, i_, i_, i_, i_, i_, i_, i_, i_, i_, i_, i_, i_, i_, i_, i_, i_, i_, i_, i_, i_, o_, o_, o_, o_, o_, o_, o_, o_, o_, o_, o_, o_, o_, o_, o_, o_, o_, o_, o_, o_, o_, o_, o_, o_]
def spec_FeedValid.m25 : Array Bool := #[i_, i_, i_, i_, i_, i_, i_, i_, i_, i_, i_, i_, i_, i_, i_, i_, i_, i_, i_, i_, i_, i_, i_, i_, i_, o_, o_, o_, o_, o_, o_, o_, o_, o_, o_, o_, o_, o_, o_, o_, o_, o_, o_, o_, o_, o_, o_, o_]
def spec_FeedValid.m26 : Array Bool := #[i_, i_, i_, i_, i_, i_, i_, i_, i_, i_, i_, i_, i_, i_, i_, i_, i_, i_, i_, i_, i_, i_, i_, i_, i_, i_, o_, o_, o_, o_, o_, o_, o_, o_, o_, o_, o_, o_, o_, o_, o_, o_, o_, o_, o_, o_, o_, o_]
def spec_FeedValid.m27 : Array Bool := #[i_, i_, i_, i_, i_, i_, i_, i_, i_, i_, i_, i_, i_, i_, i_, i_, i_, i_, i_, i_, i_, i_, i_, i_, i_, i_, i_, o_, o_, o_, o_, o_, o_, o_, o_, o_, o_, o_, o_, o_, o_, o_, o_, o_, o_, o_, o_, o_]
def spec_FeedValid.m28 : Array Bool := #[i_, i_, i_, i_, i_, i_, i_, i_, i_, i_, i_, i_, i_, i_, i_, i_, i_, i_, i_, i_, i_, i_, i_, i_, i_, i_, i_, i_, o_, o_, o_, o_, o_, o_, o_, o_, o_, o_, o_, o_, o_, o_, o_, o_, o_, o_, o_, o_]
def spec_FeedValid.m29 : Array Bool := #[i_, i_, i_, i_, i_, i_, i_, i_, i_, i_, i_, i_, i_, i_, i_, i_, i_, i_, i_, i_, i_, i_, i_, i_, i_, i_, i_, i_, i_, o_, o_, o_, o_, o_, o_, o_, o_, o_, o_, o_, o_, o_, o_, o_, o_, o_, o_, o_]
def spec_FeedValid.m30 : Array Bool := #[i_, i_, i_, i_, i_, i_, i_, i_, i_, i_, i_, i_, i_, i_, i_, i_, i_, i_, i_, i_, i_, i_, i_, i_, i_, i_, i_, i_, i_, i_, o_, o_, o_, o_, o_, o_, o_, o_, o_, o_, o_, o_, o_, o_, o_, o_, o_, o_]
def spec_FeedValid.m31 : Array Bool := #[i_, i_, i_, i_, i_, i_, i_, i_, i_, i_, i_, i_, i_, i_, i_, i_, i_, i_, i_, i_, i_, i_, i_, i_, i_, i_, i_, i_, i_, i_, i_, o_, o_, o_, o_, o_, o_, o_, o_, o_, o_, o_, o_, o_, o_, o_, o_, o_]
def spec_FeedValid.m32 : Array Bool := #[i_, i_, i_, i_, i_, i_, i_, i_, i_, i_, i_, i_, i_, i_, i_, i_, i_, i_, i_, i_, i_, i_, i_, i_, i_, i_, i_, i_, i_, i_, i_, i_, o_, o_, o_, o_, o_, o_, o_, o_, o_, o_, o_, o_, o_, o_, o_, o_]
def spec_FeedValid.m33 : Array Bool := #[i_, i_, i_, i_, i_, i_, i_, i_, i_, i_, i_, i_, i_, i_, i_, i_, i_, i_, i_, i_, i_, i_, i_, i_, i_, i_, i_, i_, i_, i_, i_, i_, i_, o_, o_, o_, o_, o_, o_, o_, o_, o_, o_, o_, o_, o_, o_, o_]
def spec_FeedValid.m34 : Array Bool := #[i_, i_, i_, i_, i_, i_, i_, i_, i_, i_, i_, i_, i_, i_, i_, i_, i_, i_, i_, i_, i_, i_, i_, i_, i_, i_, i_, i_, i_, i_, i_, i_, i_, i_, o_, o_, o_, o_, o_, o_, o_, o_, o_, o_, o_, o_, o_, o_]
def spec_FeedValid.m35 : Array Bool := #[i_, i_, i_, i_, i_, i_, i_, i_, i_, i_, i_, i_, i_, i_, i_, i_, i_, i_, i_, i_, i_, i_, i_, i_, i_, i_, i_, i_, i_, i_, i_, i_, i_, i_, i_, o_, o_, o_, o_, o_, o_, o_, o_, o_, o_, o_, o_, o_]
def spec_FeedValid.m36 : Array Bool := #[i_, i_, i_, i_, i_, i_, i_, i_, i_, i_, i_, i_, i_, i_, i_, i_, i_, i_, i_, i_, i_, i_, i_, i_, i_, i_, i_, i_, i_, i_, i_, i_, i_, i_, i_, i_, o_, o_, o_, o_, o_, o_, o_, o_, o_, o_, o_, o_]
def spec_FeedValid.m37 : Array Bool := #[i_, i_, i_, i_, i_, i_, i_, i_, i_, i_, i_, i_, i_, i_, i_, i_, i_, i_, i_, i_, i_, i_, i_, i_, i_, i_, i_, i_, i_, i_, i_, i_, i_, i_, i_, i_, i_, o_, o_, o_, o_, o_, o_, o_, o_, o_, o_, o_]
def spec_FeedValid.m38 : Array Bool := #[i_, i_, i_, i_, i_, i_, i_, i_, i_, i_, i_, i_, i_, i_, i_, i_, i_, i_, i_, i_, i_, i_, i_, i_, i_, i_, i_, i_, i_, i_, i_, i_, i_, i_, i_, i_, i_, i_, o_, o_, o_, o_, o_, o_, o_, o_, o_, o_]
def spec_FeedValid.m39 : Array Bool := #[i_, i_, i_, i_, i_, i_, i_, i_, i_, i_, i_, i_, i_, i_, i_, i_, i_, i_, i_, i_, i_, i_, i_, i_, i_, i_, i_, i_, i_, i_, i_, i_, i_, i_, i_, i_, i_, i_, i_, o_, o_, o_, o_, o_, o_, o_, o_, o_]
def spec_FeedValid.m40 : Array Bool := #[i_, i_, i_, i_, i_, i_, i_, i_, i_, i_, i_, i_, i_, i_, i_, i_, i_, i_, i_, i_, i_, i_, i_, i_, i_, i_, i_, i_, i_, i_, i_, i_, i_, i_, i_, i_, i_, i_, i_, i_, o_, o_, o_, o_, o_, o_, o_, o_]
def spec_FeedValid.m41 : Array Bool := #[i_, i_, i_, i_, i_, i_, i_, i_, i_, i_, i_, i_, i_, i_, i_, i_, i_, i_, i_, i_, i_, i_, i_, i_, i_, i_, i_, i_, i_, i_, i_, i_, i_, i_, i_, i_, i_, i_, i_, i_, i_, o_, o_, o_, o_, o_, o_, o_]
def spec_FeedValid.m42 : Array Bool := #[i_, i_, i_, i_, i_, i_, i_, i_, i_, i_, i_, i_, i_, i_, i_, i_, i_, i_, i_, i_, i_, i_, i_, i_, i_, i_, i_, i_, i_, i_, i_, i_, i_, i_, i_, i_, i_, i_, i_, i_, i_, i_, o_, o_, o_, o_, o_, o_]
def spec_FeedValid.m43 : Array Bool := #[i_, i_, i_, i_, i_, i_, i_, i_, i_, i_, i_, i_, i_, i_, i_, i_, i_, i_, i_, i_, i_, i_, i_, i_, i_, i_, i_, i_, i_, i_, i_, i_, i_, i_, i_, i_, i_, i_, i_, i_, i_, i_, i_, o_, o_, o_, o_, o_]
def spec_FeedValid.m44 : Array Bool := #[i_, i_, i_, i_, i_, i_, i_, i_, i_, i_, i_, i_, i_, i_, i_, i_, i_, i_, i_, i_, i_, i_, i_, i_, i_, i_, i_, i_, i_, i_, i_, i_, i_, i_, i_, i_, i_, i_, i_, i_, i_, i_, i_, i_, o_, o_, o_, o_]
def spec_FeedValid.m45 : Array Bool := #[i_, i_, i_, i_, i_, i_, i_, i_, i_, i_, i_, i_, i_, i_, i_, i_, i_, i_, i_, i_, i_, i_, i_, i_, i_, i_, i_, i_, i_, i_, i_, i_, i_, i_, i_, i_, i_, i_, i_, i_, i_, i_, i_, i_, i_, o_, o_, o_]
def spec_FeedValid.m46 : Array Bool := #[i_, i_, i_, i_, i_, i_, i_, i_, i_, i_, i_, i_, i_, i_, i_, i_, i_, i_, i_, i_, i_, i_, i_, i_, i_, i_, i_, i_, i_, i_, i_, i_, i_, i_, i_, i_, i_, i_, i_, i_, i_, i_, i_, i_, i_, i_, o_, o_]
def spec_FeedValid.m47 : Array Bool := #[i_, i_, i_, i_, i_, i_, i_, i_, i_, i_, i_, i_, i_, i_, i_, i_, i_, i_, i_, i_, i_, i_, i_, i_, i_, i_, i_, i_, i_, i_, i_, i_, i_, i_, i_, i_, i_, i_, i_, i_, i_, i_, i_, i_, i_, i_, i_, o_]
def spec_FeedValid.m48 : Array Bool := #[i_, i_, i_, i_, i_, i_, i_, i_, i_, i_, i_, i_, i_, i_, i_, i_, i_, i_, i_, i_, i_, i_, i_, i_, i_, i_, i_, i_, i_, i_, i_, i_, i_, i_, i_, i_, i_, i_, i_, i_, i_, i_, i_, i_, i_, i_, i_, i_]
def spec_FeedValid.m49 : Array Bool := #[i_, i_, i_, i_, i_, i_, i_, i_, i_, i_, i_, i_, i_, i_, i_, i_, i_, i_, i_, i_, i_, i_, i_, i_, i_, i_, i_, i_, o_, i_, o_, o_, o_, o_, o_, o_, o_, o_, o_, o_, o_, o_, o_, o_, o_, o_, o_, o_]
def spec_FeedValid.m50 : Array Bool := #[i_, i_, i_, i_, i_, i_, i_, i_, i_, i_, i_, i_, i_, i_, i_, i_, i_, i_, i_, i_, i_, i_, i_, i_, i_, i_, i_, i_, i_, i_, i_, i_, i_, i_, i_, i_, i_, i_, o_, i_, o_, o_, o_, o_, o_, o_, o_, o_]
def spec_FeedValid.m51 : Array Bool := #[i_, i_, i_, i_, i_, i_, i_, i_, i_, i_, i_, i_, i_, i_, i_, i_, i_, i_, i_, i_, i_, i_, i_, i_, i_, i_, i_, i_, i_, i_, i_, i_, i_, i_, i_, i_, i_, i_, o_, i_, i_, o_, o_, o_, o_, o_, o_, o_]
def spec_FeedValid.m52 : Array Bool := #[i_, i_, i_, i_, i_, i_, i_, i_, i_, i_, i_, i_, i_, i_, i_, i_, i_, i_, i_, i_, i_, i_, i_, i_, i_, i_, i_, i_, i_, i_, i_, i_, i_, i_, i_, i_, i_, i_, o_, i_, i_, i_, o_, o_, o_, o_, o_, o_]
def spec_FeedValid.m53 : Array Bool := #[i_, i_, i_, i_, i_, i_, i_, i_, i_, i_, i_, i_, i_, i_, i_, i_, i_, i_, i_, i_, i_, i_, i_, i_, i_, i_, i_, i_, i_, i_, i_, i_, i_, i_, i_, i_, i_, i_, o_, i_, i_, i_, i_, o_, o_, o_, o_, o_]
def spec_FeedValid.m54 : Array Bool := #[i_, i_, i_, i_, i_, i_, i_, i_, i_, i_, i_, i_, i_, i_, i_, i_, i_, i_, i_, i_, i_, i_, i_, i_, i_, i_, i_, i_, i_, i_, i_, i_, i_, i_, i_, i_, i_, i_, o_, i_, i_, i_, i_, i_, o_, o_, o_, o_]
set_option maxHeartbeats 8000000 in
set_option maxRecDepth 100000 in
theorem spec_FeedValid.calls (k : Nat) (A0 : Option Addr) (c0 : Nat) (l0 : List (S75)) (r : Bool) (w : World) (hr0 : Kd.C k75 w A0 l0.length l0) (hc0 : l0.length ≤ c0) (h : spec_FeedValid.f k l0 = some r) :
  Calls Try.prog 52 #[.slice A0 l0.length c0] w fun e w' => e = .returned (.bool r) ∧ Below w.heap.size w w' := by
 have hu75 := Try.underlying75
 have HR0 := Aside0.mk hr0
 have HC0 := Aside0.mk hc0
 clear hr0 hc0
 have HB := Aside0.mk (Below.refl w.heap.size w)
 have H : (spec_FeedValid.l0 k l0 0) = some r := h
 clear h
 have H' := Aside0.mk H
 clear H
 go_enter Try.func52, Try.ntmps52
 go_wp2
 go_loopg [3] k (fun kq v3 w' => ∃ (x3_1 : Int), v3 = .int .i64 x3_1 ∧ Aside0 (spec_FeedValid.l0 kq l0 x3_1 = some r) ∧ Aside0 (kq ≤ k) ∧ Aside0 (Below w.heap.size w w'))
 case atStart => exact ⟨(0), (by first | rfl | (simp; done) | (simp [*]; done) | (simp [bne_nil_, beq_nil_]; done)), H', ⟨Nat.le_refl _⟩, ⟨bp HB.out⟩⟩
 case round =>
  clear H'
  obtain ⟨x3_1, rfl, HA, HK1, HB⟩ := hrel
  cases gk with
  | zero => exact absurd HA.out (by simp [spec_FeedValid.l0])
  | succ k1 =>
   have H := HA.out
   clear HA
   simp only [spec_FeedValid.l0] at H
   by_cases c2 : x3_1 < (l0.length : Int)
   ·
    rw [if_pos c2] at H
    have c2b0 : decide (x3_1 < (l0.length : Int)) = true := decide_eq_true c2
    clear c2
    by_cases c3 : 0 ≤ x3_1
    ·
     rw [if_pos c3] at H
     have c3b0 : decide (0 ≤ x3_1) = true := decide_eq_true c3
     clear c3
     by_cases c4 : x3_1 ≥ 24
     ·
      rw [if_pos c4] at H
      have c4b0 : decide (24 ≤ x3_1) = true := decide_eq_true c4
      clear c4
      obtain rfl := Option.some.inj H
      have p108 : 0 ≤ (x3_1 : Int) := of_decide_eq_true (by first | (with_reducible assumption) | assumption)
      have q108 : x3_1 < (l0.length : Int) := of_decide_eq_true (by first | (with_reducible assumption) | assumption)
      obtain ⟨ad108, e108, hx108_0, hx108_1, hx108_2, hx108_3⟩ := at_T75 HR0.out x3_1 p108 q108
      cases e108
      replace hx108_0 := hcx HB hx108_0
      replace hx108_1 := hcx HB hx108_1
      replace hx108_2 := hcx HB hx108_2
      replace hx108_3 := hcx HB hx108_3
      replace p108 := eq_true p108
      replace q108 := eq_true q108
      try go_wp2_with (first | ((with_reducible refine gate_dst (N := 4) rfl ?_); refine bxe (N := 4) (cs := #[.int .i64 0, .string (⟨#[]⟩ : ByteArray), .int .i64 0, .int .i64 0]) (t := 75) ?_; intro gb109 hg w5 hbox hb; have BK109 := Aside0.mk (hbox); have GW109 := an2 HB hg; have GE109 := an2 HB hg; replace HB := an0 HB hb; clear hb hbox hg; obtain ⟨hcz6_0, hcz6_1, hcz6_2, hcz6_3, hfz6_0, hfz6_1, hfz6_2, hfz6_3⟩ := cl4 BK109))
      have n0_ : Aside0 (((((w5.setCell ⟨gb109, 0, none⟩ (.int .i64 ((rd_T75 l0 x3_1).f0))).setCell ⟨gb109, 1, none⟩ (.string ((rd_T75 l0 x3_1).f1))).setCell ⟨gb109, 2, none⟩ (.int .i64 ((rd_T75 l0 x3_1).f2))).setCell ⟨gb109, 3, none⟩ (.int .i64 ((rd_T75 l0 x3_1).f3))).heap[gb109]? = some (.cells #[.int .i64 ((rd_T75 l0 x3_1).f0), .string ((rd_T75 l0 x3_1).f1), .int .i64 ((rd_T75 l0 x3_1).f2), .int .i64 ((rd_T75 l0 x3_1).f3)] 75 (0, 0))) := ⟨by (with_reducible repeat (first | refine blk_drewN ?_ _ | refine blk_drew ?_ | refine blk_alloc ?_ _)); refine blk_put (cs := #[.int .i64 ((rd_T75 l0 x3_1).f0), .string ((rd_T75 l0 x3_1).f1), .int .i64 ((rd_T75 l0 x3_1).f2), .int .i64 0]) ?_ 3 _ rfl; (with_reducible repeat (first | refine blk_drewN ?_ _ | refine blk_drew ?_ | refine blk_alloc ?_ _)); refine blk_put (cs := #[.int .i64 ((rd_T75 l0 x3_1).f0), .string ((rd_T75 l0 x3_1).f1), .int .i64 0, .int .i64 0]) ?_ 2 _ rfl; (with_reducible repeat (first | refine blk_drewN ?_ _ | refine blk_drew ?_ | refine blk_alloc ?_ _)); refine blk_put (cs := #[.int .i64 ((rd_T75 l0 x3_1).f0), .string (⟨#[]⟩ : ByteArray), .int .i64 0, .int .i64 0]) ?_ 1 _ rfl; (with_reducible repeat (first | refine blk_drewN ?_ _ | refine blk_drew ?_ | refine blk_alloc ?_ _)); refine blk_put (cs := #[.int .i64 0, .string (⟨#[]⟩ : ByteArray), .int .i64 0, .int .i64 0]) ?_ 0 _ rfl; (with_reducible repeat (first | refine blk_drewN ?_ _ | refine blk_drew ?_ | refine blk_alloc ?_ _)); exact BK109.out⟩
      have n1_ : Aside0 (Below w.heap.size w ((((w5.setCell ⟨gb109, 0, none⟩ (.int .i64 ((rd_T75 l0 x3_1).f0))).setCell ⟨gb109, 1, none⟩ (.string ((rd_T75 l0 x3_1).f1))).setCell ⟨gb109, 2, none⟩ (.int .i64 ((rd_T75 l0 x3_1).f2))).setCell ⟨gb109, 3, none⟩ (.int .i64 ((rd_T75 l0 x3_1).f3)))) := ⟨bp HB.out⟩
      (try clear BK109)
      (try clear HB)
      generalize ((((w5.setCell ⟨gb109, 0, none⟩ (.int .i64 ((rd_T75 l0 x3_1).f0))).setCell ⟨gb109, 1, none⟩ (.string ((rd_T75 l0 x3_1).f1))).setCell ⟨gb109, 2, none⟩ (.int .i64 ((rd_T75 l0 x3_1).f2))).setCell ⟨gb109, 3, none⟩ (.int .i64 ((rd_T75 l0 x3_1).f3))) = w7 at n0_ n1_ ⊢
      have BK109 := n0_
      have HB := n1_
      clear n0_ n1_
      have n0_ := Aside0.mk (blk_drew BK109.out)
      have n1_ := Aside0.mk (below_drew1 HB.out)
      clear BK109
      clear HB
      have BK109 := n0_
      have HB := n1_
      clear n0_ n1_
      refine start_ (n := 48) (S := fun w' => True) (ds := []) spec_FeedValid.m0 (by kernel_rfl) rfl rfl trivial (fun hHeld => ?_); refine with_tabW spec_FeedValid.tab5 spec_FeedValid.bits5 (fun HT_ HW_ => ?_)
      generalize w7.drew = w8 at BK109 HB hHeld ⊢
      refine pur (i := 0) (N := some 15) spec_FeedValid.m1 rfl rfl HT_.out ?_
      refine pur (i := 1) (N := some 16) spec_FeedValid.m2 rfl rfl HT_.out ?_
      refine pur (i := 2) (N := some 17) spec_FeedValid.m3 rfl rfl HT_.out ?_
      refine puo (i := 3) (N := some 18) spec_FeedValid.m4 rfl rfl HT_.out ?_
      refine puo (i := 4) (N := some 19) spec_FeedValid.m5 rfl rfl HT_.out ?_
      refine puo (i := 5) (N := some 20) spec_FeedValid.m6 rfl rfl HT_.out ?_
      refine puo (i := 6) (N := some 21) spec_FeedValid.m7 rfl rfl HT_.out ?_
      refine pur (i := 7) (N := some 22) spec_FeedValid.m8 rfl rfl HT_.out ?_
      refine pur (i := 8) (N := some 23) spec_FeedValid.m9 rfl rfl HT_.out ?_
      refine puo (i := 9) (N := some 24) spec_FeedValid.m10 rfl rfl HT_.out ?_
      refine puo (i := 10) (N := some 25) spec_FeedValid.m11 rfl rfl HT_.out ?_
      refine puo (i := 11) (N := some 26) spec_FeedValid.m12 rfl rfl HT_.out ?_
      refine puo (i := 12) (N := some 27) spec_FeedValid.m13 rfl rfl HT_.out ?_
      refine pur (i := 13) (N := some 28) spec_FeedValid.m14 rfl rfl HT_.out ?_
      refine pur (i := 14) (N := some 29) spec_FeedValid.m15 rfl rfl HT_.out ?_
      refine puo (i := 15) (N := some 30) spec_FeedValid.m16 rfl rfl HT_.out ?_
      refine puo (i := 16) (N := some 31) spec_FeedValid.m17 rfl rfl HT_.out ?_
      refine puo (i := 17) (N := some 32) spec_FeedValid.m18 rfl rfl HT_.out ?_
      refine puo (i := 18) (N := some 33) spec_FeedValid.m19 rfl rfl HT_.out ?_
      refine pur (i := 19) (N := some 34) spec_FeedValid.m20 rfl rfl HT_.out ?_
      refine pur (i := 20) (N := some 35) spec_FeedValid.m21 rfl rfl HT_.out ?_
      refine puo (i := 21) (N := some 36) spec_FeedValid.m22 rfl rfl HT_.out ?_
      refine puo (i := 22) (N := some 37) spec_FeedValid.m23 rfl rfl HT_.out ?_
      refine puo (i := 23) (N := some 38) spec_FeedValid.m24 rfl rfl HT_.out ?_
      refine puo (i := 24) (N := some 39) spec_FeedValid.m25 rfl rfl HT_.out ?_
      refine pur (i := 25) (N := some 40) spec_FeedValid.m26 rfl rfl HT_.out ?_
      refine pur (i := 26) (N := some 41) spec_FeedValid.m27 rfl rfl HT_.out ?_
      refine puo (i := 27) (N := some 42) spec_FeedValid.m28 rfl rfl HT_.out ?_
      refine puo (i := 28) (N := some 43) spec_FeedValid.m29 rfl rfl HT_.out ?_
      refine puo (i := 29) (N := some 44) spec_FeedValid.m30 rfl rfl HT_.out ?_
      refine puo (i := 30) (N := some 45) spec_FeedValid.m31 rfl rfl HT_.out ?_
      refine puo (i := 31) (N := some 46) spec_FeedValid.m32 rfl rfl HT_.out ?_
      refine pur (i := 32) (N := some 47) spec_FeedValid.m33 rfl rfl HT_.out ?_
      refine pur (i := 33) (N := some 48) spec_FeedValid.m34 rfl rfl HT_.out ?_
      refine puo (i := 34) (N := some 49) spec_FeedValid.m35 rfl rfl HT_.out ?_
      refine puo (i := 35) (N := some 50) spec_FeedValid.m36 rfl rfl HT_.out ?_
      refine puo (i := 36) (N := some 51) spec_FeedValid.m37 rfl rfl HT_.out ?_
      refine puo (i := 37) (N := some 52) spec_FeedValid.m38 rfl rfl HT_.out ?_
      refine puo (i := 38) (N := some 53) spec_FeedValid.m39 rfl rfl HT_.out ?_
      refine puo (i := 39) (N := some 54) spec_FeedValid.m40 rfl rfl HT_.out ?_
      refine puo (i := 40) (N := some 55) spec_FeedValid.m41 rfl rfl HT_.out ?_
      refine puo (i := 41) (N := some 56) spec_FeedValid.m42 rfl rfl HT_.out ?_
      refine puo (i := 42) (N := some 57) spec_FeedValid.m43 rfl rfl HT_.out ?_
      refine puo (i := 43) (N := some 58) spec_FeedValid.m44 rfl rfl HT_.out ?_
      refine puo (i := 44) (N := some 59) spec_FeedValid.m45 rfl rfl HT_.out ?_
      refine puo (i := 45) (N := some 60) spec_FeedValid.m46 rfl rfl HT_.out ?_
      refine puo (i := 46) (N := some 61) spec_FeedValid.m47 rfl rfl HT_.out ?_
      refine pur (i := 47) (N := some 62) spec_FeedValid.m48 rfl rfl HT_.out ?_
      refine done_ (done_of HT_.out (by kernel_rfl)) ?_
      try go_wp2
      go_ret
      exact ⟨fe, bp HB.out⟩
     ·
      rw [if_neg c4] at H
      have c4b0 : decide (24 ≤ x3_1) = false := decide_eq_false c4
      clear c4
      replace H := Option.bind_eq_some_iff.mp H
      obtain ⟨t110, A90, H⟩ := H
      replace H : (if t110 = true then ((spec_KeyValid.f k1 ((rd_T75 l0 x3_1).f1)).bind fun t111 => (if t111 = true then ((spec_l1In.f ((rd_T75 l0 x3_1).f2) (-1) 999).bind fun t112 => (if t112 = true then ((spec_l1In.f ((rd_T75 l0 x3_1).f3) (-1) 999).bind fun t113 => (if t113 = true then (if ((rd_T75 l0 x3_1).f2) = ((rd_T75 l0 x3_1).f3) then (some false) else (if x3_1 > 0 then (if 0 ≤ (wrap64 (x3_1 - 1)) then (if (wrap64 (x3_1 - 1)) < (l0.length : Int) then (if ((rd_T75 l0 x3_1).f0) ≤ ((rd_T75 l0 (wrap64 (x3_1 - 1))).f0) then (some false) else (spec_FeedValid.l0 k1 l0 (wrap64 (x3_1 + 1)))) else (none)) else (none)) else (spec_FeedValid.l0 k1 l0 (wrap64 (x3_1 + 1))))) else (some false))) else (some false))) else (some false))) else (some false)) = some r := H
      have A9 := Aside0.mk A90
      clear A90
      by_cases c10 : t110 = true
      ·
       subst c10
       have H1 : ((spec_KeyValid.f k1 ((rd_T75 l0 x3_1).f1)).bind fun t111 => (if t111 = true then ((spec_l1In.f ((rd_T75 l0 x3_1).f2) (-1) 999).bind fun t112 => (if t112 = true then ((spec_l1In.f ((rd_T75 l0 x3_1).f3) (-1) 999).bind fun t113 => (if t113 = true then (if ((rd_T75 l0 x3_1).f2) = ((rd_T75 l0 x3_1).f3) then (some false) else (if x3_1 > 0 then (if 0 ≤ (wrap64 (x3_1 - 1)) then (if (wrap64 (x3_1 - 1)) < (l0.length : Int) then (if ((rd_T75 l0 x3_1).f0) ≤ ((rd_T75 l0 (wrap64 (x3_1 - 1))).f0) then (some false) else (spec_FeedValid.l0 k1 l0 (wrap64 (x3_1 + 1)))) else (none)) else (none)) else (spec_FeedValid.l0 k1 l0 (wrap64 (x3_1 + 1))))) else (some false))) else (some false))) else (some false))) = some r := by rw [if_pos rfl] at H; exact H
       clear H
       have H := H1
       clear H1
       replace H := Option.bind_eq_some_iff.mp H
       obtain ⟨t111, A110, H⟩ := H
       replace H : (if t111 = true then ((spec_l1In.f ((rd_T75 l0 x3_1).f2) (-1) 999).bind fun t112 => (if t112 = true then ((spec_l1In.f ((rd_T75 l0 x3_1).f3) (-1) 999).bind fun t113 => (if t113 = true then (if ((rd_T75 l0 x3_1).f2) = ((rd_T75 l0 x3_1).f3) then (some false) else (if x3_1 > 0 then (if 0 ≤ (wrap64 (x3_1 - 1)) then (if (wrap64 (x3_1 - 1)) < (l0.length : Int) then (if ((rd_T75 l0 x3_1).f0) ≤ ((rd_T75 l0 (wrap64 (x3_1 - 1))).f0) then (some false) else (spec_FeedValid.l0 k1 l0 (wrap64 (x3_1 + 1)))) else (none)) else (none)) else (spec_FeedValid.l0 k1 l0 (wrap64 (x3_1 + 1))))) else (some false))) else (some false))) else (some false)) = some r := H
       have A11 := Aside0.mk A110
       clear A110
       by_cases c12 : t111 = true
       ·
        subst c12
        have H1 : ((spec_l1In.f ((rd_T75 l0 x3_1).f2) (-1) 999).bind fun t112 => (if t112 = true then ((spec_l1In.f ((rd_T75 l0 x3_1).f3) (-1) 999).bind fun t113 => (if t113 = true then (if ((rd_T75 l0 x3_1).f2) = ((rd_T75 l0 x3_1).f3) then (some false) else (if x3_1 > 0 then (if 0 ≤ (wrap64 (x3_1 - 1)) then (if (wrap64 (x3_1 - 1)) < (l0.length : Int) then (if ((rd_T75 l0 x3_1).f0) ≤ ((rd_T75 l0 (wrap64 (x3_1 - 1))).f0) then (some false) else (spec_FeedValid.l0 k1 l0 (wrap64 (x3_1 + 1)))) else (none)) else (none)) else (spec_FeedValid.l0 k1 l0 (wrap64 (x3_1 + 1))))) else (some false))) else (some false))) = some r := by rw [if_pos rfl] at H; exact H
        clear H
        have H := H1
        clear H1
        replace H := Option.bind_eq_some_iff.mp H
        obtain ⟨t112, A130, H⟩ := H
        replace H : (if t112 = true then ((spec_l1In.f ((rd_T75 l0 x3_1).f3) (-1) 999).bind fun t113 => (if t113 = true then (if ((rd_T75 l0 x3_1).f2) = ((rd_T75 l0 x3_1).f3) then (some false) else (if x3_1 > 0 then (if 0 ≤ (wrap64 (x3_1 - 1)) then (if (wrap64 (x3_1 - 1)) < (l0.length : Int) then (if ((rd_T75 l0 x3_1).f0) ≤ ((rd_T75 l0 (wrap64 (x3_1 - 1))).f0) then (some false) else (spec_FeedValid.l0 k1 l0 (wrap64 (x3_1 + 1)))) else (none)) else (none)) else (spec_FeedValid.l0 k1 l0 (wrap64 (x3_1 + 1))))) else (some false))) else (some false)) = some r := H
        have A13 := Aside0.mk A130
        clear A130
        by_cases c14 : t112 = true
        ·
         subst c14
         have H1 : ((spec_l1In.f ((rd_T75 l0 x3_1).f3) (-1) 999).bind fun t113 => (if t113 = true then (if ((rd_T75 l0 x3_1).f2) = ((rd_T75 l0 x3_1).f3) then (some false) else (if x3_1 > 0 then (if 0 ≤ (wrap64 (x3_1 - 1)) then (if (wrap64 (x3_1 - 1)) < (l0.length : Int) then (if ((rd_T75 l0 x3_1).f0) ≤ ((rd_T75 l0 (wrap64 (x3_1 - 1))).f0) then (some false) else (spec_FeedValid.l0 k1 l0 (wrap64 (x3_1 + 1)))) else (none)) else (none)) else (spec_FeedValid.l0 k1 l0 (wrap64 (x3_1 + 1))))) else (some false))) = some r := by rw [if_pos rfl] at H; exact H
         clear H
         have H := H1
         clear H1
         replace H := Option.bind_eq_some_iff.mp H
         obtain ⟨t113, A150, H⟩ := H
         replace H : (if t113 = true then (if ((rd_T75 l0 x3_1).f2) = ((rd_T75 l0 x3_1).f3) then (some false) else (if x3_1 > 0 then (if 0 ≤ (wrap64 (x3_1 - 1)) then (if (wrap64 (x3_1 - 1)) < (l0.length : Int) then (if ((rd_T75 l0 x3_1).f0) ≤ ((rd_T75 l0 (wrap64 (x3_1 - 1))).f0) then (some false) else (spec_FeedValid.l0 k1 l0 (wrap64 (x3_1 + 1)))) else (none)) else (none)) else (spec_FeedValid.l0 k1 l0 (wrap64 (x3_1 + 1))))) else (some false)) = some r := H
         have A15 := Aside0.mk A150
         clear A150
         by_cases c16 : t113 = true
         ·
          subst c16
          have H1 : (if ((rd_T75 l0 x3_1).f2) = ((rd_T75 l0 x3_1).f3) then (some false) else (if x3_1 > 0 then (if 0 ≤ (wrap64 (x3_1 - 1)) then (if (wrap64 (x3_1 - 1)) < (l0.length : Int) then (if ((rd_T75 l0 x3_1).f0) ≤ ((rd_T75 l0 (wrap64 (x3_1 - 1))).f0) then (some false) else (spec_FeedValid.l0 k1 l0 (wrap64 (x3_1 + 1)))) else (none)) else (none)) else (spec_FeedValid.l0 k1 l0 (wrap64 (x3_1 + 1))))) = some r := by rw [if_pos rfl] at H; exact H
          clear H
          have H := H1
          clear H1
          by_cases c17 : ((rd_T75 l0 x3_1).f2) = ((rd_T75 l0 x3_1).f3)
          ·
           rw [if_pos c17] at H
           have c17b0 : (((rd_T75 l0 x3_1).f2) == ((rd_T75 l0 x3_1).f3)) = true := beq_iff_eq.mpr c17
           have c17b1 : (((rd_T75 l0 x3_1).f2) != ((rd_T75 l0 x3_1).f3)) = false := bne_eq_false_iff_eq.mpr c17
           clear c17
           obtain rfl := Option.some.inj H
           have p108 : 0 ≤ (x3_1 : Int) := of_decide_eq_true (by first | (with_reducible assumption) | assumption)
           have q108 : x3_1 < (l0.length : Int) := of_decide_eq_true (by first | (with_reducible assumption) | assumption)
           obtain ⟨ad108, e108, hx108_0, hx108_1, hx108_2, hx108_3⟩ := at_T75 HR0.out x3_1 p108 q108
           cases e108
           replace hx108_0 := hcx HB hx108_0
           replace hx108_1 := hcx HB hx108_1
           replace hx108_2 := hcx HB hx108_2
           replace hx108_3 := hcx HB hx108_3
           replace p108 := eq_true p108
           replace q108 := eq_true q108
           try go_wp2_with (first | ((with_reducible refine gate_dst (N := 4) rfl ?_); refine bxe (N := 4) (cs := #[.int .i64 0, .string (⟨#[]⟩ : ByteArray), .int .i64 0, .int .i64 0]) (t := 75) ?_; intro gb109 hg w18 hbox hb; have BK109 := Aside0.mk (hbox); have GW109 := an2 HB hg; have GE109 := an2 HB hg; replace HB := an0 HB hb; clear hb hbox hg; obtain ⟨hcz19_0, hcz19_1, hcz19_2, hcz19_3, hfz19_0, hfz19_1, hfz19_2, hfz19_3⟩ := cl4 BK109))
           have n0_ : Aside0 (((((w18.setCell ⟨gb109, 0, none⟩ (.int .i64 ((rd_T75 l0 x3_1).f0))).setCell ⟨gb109, 1, none⟩ (.string ((rd_T75 l0 x3_1).f1))).setCell ⟨gb109, 2, none⟩ (.int .i64 ((rd_T75 l0 x3_1).f2))).setCell ⟨gb109, 3, none⟩ (.int .i64 ((rd_T75 l0 x3_1).f3))).heap[gb109]? = some (.cells #[.int .i64 ((rd_T75 l0 x3_1).f0), .string ((rd_T75 l0 x3_1).f1), .int .i64 ((rd_T75 l0 x3_1).f2), .int .i64 ((rd_T75 l0 x3_1).f3)] 75 (0, 0))) := ⟨by (with_reducible repeat (first | refine blk_drewN ?_ _ | refine blk_drew ?_ | refine blk_alloc ?_ _)); refine blk_put (cs := #[.int .i64 ((rd_T75 l0 x3_1).f0), .string ((rd_T75 l0 x3_1).f1), .int .i64 ((rd_T75 l0 x3_1).f2), .int .i64 0]) ?_ 3 _ rfl; (with_reducible repeat (first | refine blk_drewN ?_ _ | refine blk_drew ?_ | refine blk_alloc ?_ _)); refine blk_put (cs := #[.int .i64 ((rd_T75 l0 x3_1).f0), .string ((rd_T75 l0 x3_1).f1), .int .i64 0, .int .i64 0]) ?_ 2 _ rfl; (with_reducible repeat (first | refine blk_drewN ?_ _ | refine blk_drew ?_ | refine blk_alloc ?_ _)); refine blk_put (cs := #[.int .i64 ((rd_T75 l0 x3_1).f0), .string (⟨#[]⟩ : ByteArray), .int .i64 0, .int .i64 0]) ?_ 1 _ rfl; (with_reducible repeat (first | refine blk_drewN ?_ _ | refine blk_drew ?_ | refine blk_alloc ?_ _)); refine blk_put (cs := #[.int .i64 0, .string (⟨#[]⟩ : ByteArray), .int .i64 0, .int .i64 0]) ?_ 0 _ rfl; (with_reducible repeat (first | refine blk_drewN ?_ _ | refine blk_drew ?_ | refine blk_alloc ?_ _)); exact BK109.out⟩
           have n1_ : Aside0 (Below w.heap.size w ((((w18.setCell ⟨gb109, 0, none⟩ (.int .i64 ((rd_T75 l0 x3_1).f0))).setCell ⟨gb109, 1, none⟩ (.string ((rd_T75 l0 x3_1).f1))).setCell ⟨gb109, 2, none⟩ (.int .i64 ((rd_T75 l0 x3_1).f2))).setCell ⟨gb109, 3, none⟩ (.int .i64 ((rd_T75 l0 x3_1).f3)))) := ⟨bp HB.out⟩
           (try clear BK109)
           (try clear HB)
           generalize ((((w18.setCell ⟨gb109, 0, none⟩ (.int .i64 ((rd_T75 l0 x3_1).f0))).setCell ⟨gb109, 1, none⟩ (.string ((rd_T75 l0 x3_1).f1))).setCell ⟨gb109, 2, none⟩ (.int .i64 ((rd_T75 l0 x3_1).f2))).setCell ⟨gb109, 3, none⟩ (.int .i64 ((rd_T75 l0 x3_1).f3))) = w20 at n0_ n1_ ⊢
           have BK109 := n0_
           have HB := n1_
           clear n0_ n1_
           have n0_ := Aside0.mk (blk_drew BK109.out)
           have n1_ := Aside0.mk (below_drew1 HB.out)
           clear BK109
           clear HB
           have BK109 := n0_
           have HB := n1_
           clear n0_ n1_
           refine start_ (n := 48) (S := fun w' => w'.cell? ⟨gb109, 0, none⟩ = some (.int .i64 ((rd_T75 l0 x3_1).f0)) ∧ w'.cell? ⟨gb109, 1, none⟩ = some (.string ((rd_T75 l0 x3_1).f1)) ∧ w'.cell? ⟨gb109, 2, none⟩ = some (.int .i64 ((rd_T75 l0 x3_1).f2)) ∧ w'.cell? ⟨gb109, 3, none⟩ = some (.int .i64 ((rd_T75 l0 x3_1).f3))) (ds := []) spec_FeedValid.m0 (by kernel_rfl) rfl rfl ⟨(blk_cell BK109.out 0).trans rfl, (blk_cell BK109.out 1).trans rfl, (blk_cell BK109.out 2).trans rfl, (blk_cell BK109.out 3).trans rfl⟩ (fun hHeld => ?_); refine with_tabW spec_FeedValid.tab5 spec_FeedValid.bits5 (fun HT_ HW_ => ?_)
           generalize w20.drew = w21 at BK109 HB hHeld ⊢
           refine pur (i := 0) (N := some 15) spec_FeedValid.m1 rfl rfl HT_.out ?_
           refine pur (i := 1) (N := some 16) spec_FeedValid.m2 rfl rfl HT_.out ?_
           refine pur (i := 2) (N := some 17) spec_FeedValid.m3 rfl rfl HT_.out ?_
           refine pur (i := 3) (N := some 18) spec_FeedValid.m4 rfl rfl HT_.out ?_
           refine take_ (i := 4) (N := some 19) (v := ?_) (a' := ?_) spec_FeedValid.m5 rfl rfl (take_ofW HT_.out HW_.out (by kernel_rfl)) (fun _ _ _ h => h) (Or.inl ⟨by rfl, ?_⟩) hHeld ?_ ?_
           rotate_left
           ·
            rintro w' ⟨s0, s1, s2, s3⟩
            go_simp
            with_reducible rfl
           rotate_left; focus (simp only [Act.put, List.setIfInBounds_toArray, List.set_cons_zero, List.set_cons_succ, i64_w, i32_w]; rfl)
           refine one_ (i := 5) (N := some 20) spec_FeedValid.m6 rfl rfl (one_of HT_.out (by kernel_rfl)) (by decide) (fun K hK => ?_)
           refine goes_ Try.func112 (by kernel_rfl) rfl #[.int .i64 ((rd_T75 l0 x3_1).f0), .int .i64 0, .int .i64 23] (by rfl) rfl rfl (by (try simp only [List.map_toArray, List.map_cons, List.map_nil]); first | done | rfl | (simp only [List.length_drop, List.length_take]; rfl)) ?_
           with_reducible refine (spec_l1In.calls ((rd_T75 l0 x3_1).f0) 0 23 true _ A9.out).mono ?_
           rintro e w' ⟨rfl, ⟨nd, rfl⟩⟩
           refine ⟨_, rfl, ?_⟩
           refine hK.out _ _ ⟨(blk_cell BK109.out 0).trans rfl, (blk_cell BK109.out 1).trans rfl, (blk_cell BK109.out 2).trans rfl, (blk_cell BK109.out 3).trans rfl⟩ (fun hHeld => ?_)
           clear hK K
           refine norm_ (a' := ?_) ?_ ?_
           rotate_left
           ·
            show Act.put _ (some 20) _ = _
            simp only [Act.put, List.setIfInBounds_toArray, List.set_cons_zero, List.set_cons_succ, i64_w, i32_w]
            rfl
           refine pur (i := 6) (N := some 21) spec_FeedValid.m7 rfl rfl HT_.out ?_
           refine pur (i := 7) (N := some 22) spec_FeedValid.m8 rfl rfl HT_.out ?_
           refine pur (i := 8) (N := some 23) spec_FeedValid.m9 rfl rfl HT_.out ?_
           refine pur (i := 9) (N := some 24) spec_FeedValid.m10 rfl rfl HT_.out ?_
           refine take_ (i := 10) (N := some 25) (v := ?_) (a' := ?_) spec_FeedValid.m11 rfl rfl (take_ofW HT_.out HW_.out (by kernel_rfl)) (fun _ _ _ h => h) (Or.inl ⟨by rfl, ?_⟩) hHeld ?_ ?_
           rotate_left
           ·
            rintro w' ⟨s0, s1, s2, s3⟩
            go_simp
            with_reducible rfl
           rotate_left; focus (simp only [Act.put, List.setIfInBounds_toArray, List.set_cons_zero, List.set_cons_succ, i64_w, i32_w]; rfl)
           refine one_ (i := 11) (N := some 26) spec_FeedValid.m12 rfl rfl (one_of HT_.out (by kernel_rfl)) (by decide) (fun K hK => ?_)
           refine goes_ Try.func113 (by kernel_rfl) rfl #[.string ((rd_T75 l0 x3_1).f1)] (by rfl) rfl rfl (by (try simp only [List.map_toArray, List.map_cons, List.map_nil]); first | done | rfl | (simp only [List.length_drop, List.length_take]; rfl)) ?_
           with_reducible refine (spec_KeyValid.calls k1 ((rd_T75 l0 x3_1).f1) true _ A11.out).mono ?_
           rintro e w' ⟨rfl, ⟨nd, rfl⟩⟩
           refine ⟨_, rfl, ?_⟩
           refine hK.out _ _ ⟨(blk_cell BK109.out 0).trans rfl, (blk_cell BK109.out 1).trans rfl, (blk_cell BK109.out 2).trans rfl, (blk_cell BK109.out 3).trans rfl⟩ (fun hHeld => ?_)
           clear hK K
           refine norm_ (a' := ?_) ?_ ?_
           rotate_left
           ·
            show Act.put _ (some 26) _ = _
            simp only [Act.put, List.setIfInBounds_toArray, List.set_cons_zero, List.set_cons_succ, i64_w, i32_w]
            rfl
           refine pur (i := 12) (N := some 27) spec_FeedValid.m13 rfl rfl HT_.out ?_
           refine pur (i := 13) (N := some 28) spec_FeedValid.m14 rfl rfl HT_.out ?_
           refine pur (i := 14) (N := some 29) spec_FeedValid.m15 rfl rfl HT_.out ?_
           refine pur (i := 15) (N := some 30) spec_FeedValid.m16 rfl rfl HT_.out ?_
           refine take_ (i := 16) (N := some 31) (v := ?_) (a' := ?_) spec_FeedValid.m17 rfl rfl (take_ofW HT_.out HW_.out (by kernel_rfl)) (fun _ _ _ h => h) (Or.inl ⟨by rfl, ?_⟩) hHeld ?_ ?_
           rotate_left
           ·
            rintro w' ⟨s0, s1, s2, s3⟩
            go_simp
            with_reducible rfl
           rotate_left; focus (simp only [Act.put, List.setIfInBounds_toArray, List.set_cons_zero, List.set_cons_succ, i64_w, i32_w]; rfl)
           refine one_ (i := 17) (N := some 32) spec_FeedValid.m18 rfl rfl (one_of HT_.out (by kernel_rfl)) (by decide) (fun K hK => ?_)
           refine goes_ Try.func112 (by kernel_rfl) rfl #[.int .i64 ((rd_T75 l0 x3_1).f2), .int .i64 (-1), .int .i64 999] (by rfl) rfl rfl (by (try simp only [List.map_toArray, List.map_cons, List.map_nil]); first | done | rfl | (simp only [List.length_drop, List.length_take]; rfl)) ?_
           with_reducible refine (spec_l1In.calls ((rd_T75 l0 x3_1).f2) (-1) 999 true _ A13.out).mono ?_
           rintro e w' ⟨rfl, ⟨nd, rfl⟩⟩
           refine ⟨_, rfl, ?_⟩
           refine hK.out _ _ ⟨(blk_cell BK109.out 0).trans rfl, (blk_cell BK109.out 1).trans rfl, (blk_cell BK109.out 2).trans rfl, (blk_cell BK109.out 3).trans rfl⟩ (fun hHeld => ?_)
           clear hK K
           refine norm_ (a' := ?_) ?_ ?_
           rotate_left
           ·
            show Act.put _ (some 32) _ = _
            simp only [Act.put, List.setIfInBounds_toArray, List.set_cons_zero, List.set_cons_succ, i64_w, i32_w]
            rfl
           refine pur (i := 18) (N := some 33) spec_FeedValid.m19 rfl rfl HT_.out ?_
           refine pur (i := 19) (N := some 34) spec_FeedValid.m20 rfl rfl HT_.out ?_
           refine pur (i := 20) (N := some 35) spec_FeedValid.m21 rfl rfl HT_.out ?_
           refine pur (i := 21) (N := some 36) spec_FeedValid.m22 rfl rfl HT_.out ?_
           refine take_ (i := 22) (N := some 37) (v := ?_) (a' := ?_) spec_FeedValid.m23 rfl rfl (take_ofW HT_.out HW_.out (by kernel_rfl)) (fun _ _ _ h => h) (Or.inl ⟨by rfl, ?_⟩) hHeld ?_ ?_
           rotate_left
           ·
            rintro w' ⟨s0, s1, s2, s3⟩
            go_simp
            with_reducible rfl
           rotate_left; focus (simp only [Act.put, List.setIfInBounds_toArray, List.set_cons_zero, List.set_cons_succ, i64_w, i32_w]; rfl)
           refine one_ (i := 23) (N := some 38) spec_FeedValid.m24 rfl rfl (one_of HT_.out (by kernel_rfl)) (by decide) (fun K hK => ?_)
           refine goes_ Try.func112 (by kernel_rfl) rfl #[.int .i64 ((rd_T75 l0 x3_1).f3), .int .i64 (-1), .int .i64 999] (by rfl) rfl rfl (by (try simp only [List.map_toArray, List.map_cons, List.map_nil]); first | done | rfl | (simp only [List.length_drop, List.length_take]; rfl)) ?_
           with_reducible refine (spec_l1In.calls ((rd_T75 l0 x3_1).f3) (-1) 999 true _ A15.out).mono ?_
           rintro e w' ⟨rfl, ⟨nd, rfl⟩⟩
           refine ⟨_, rfl, ?_⟩
           refine hK.out _ _ ⟨(blk_cell BK109.out 0).trans rfl, (blk_cell BK109.out 1).trans rfl, (blk_cell BK109.out 2).trans rfl, (blk_cell BK109.out 3).trans rfl⟩ (fun hHeld => ?_)
           clear hK K
           refine norm_ (a' := ?_) ?_ ?_
           rotate_left
           ·
            show Act.put _ (some 38) _ = _
            simp only [Act.put, List.setIfInBounds_toArray, List.set_cons_zero, List.set_cons_succ, i64_w, i32_w]
            rfl
           refine pur (i := 24) (N := some 39) spec_FeedValid.m25 rfl rfl HT_.out ?_
           refine pur (i := 25) (N := some 40) spec_FeedValid.m26 rfl rfl HT_.out ?_
           refine pur (i := 26) (N := some 41) spec_FeedValid.m27 rfl rfl HT_.out ?_
           refine pur (i := 27) (N := some 42) spec_FeedValid.m28 rfl rfl HT_.out ?_
           refine pur (i := 29) (N := some 44) spec_FeedValid.m49 rfl rfl HT_.out ?_
           refine take_ (i := 28) (N := some 43) (v := ?_) (a' := ?_) spec_FeedValid.m30 rfl rfl (take_ofW HT_.out HW_.out (by kernel_rfl)) (fun _ _ _ h => h) (Or.inl ⟨by rfl, ?_⟩) hHeld ?_ ?_
           rotate_left
           ·
            rintro w' ⟨s0, s1, s2, s3⟩
            go_simp
            with_reducible rfl
           rotate_left; focus (simp only [Act.put, List.setIfInBounds_toArray, List.set_cons_zero, List.set_cons_succ, i64_w, i32_w]; rfl)
           refine take_ (i := 30) (N := some 45) (v := ?_) (a' := ?_) spec_FeedValid.m31 rfl rfl (take_ofW HT_.out HW_.out (by kernel_rfl)) (fun _ _ _ h => h) (Or.inl ⟨by rfl, ?_⟩) hHeld ?_ ?_
           rotate_left
           ·
            rintro w' ⟨s0, s1, s2, s3⟩
            go_simp
            with_reducible rfl
           rotate_left; focus (simp only [Act.put, List.setIfInBounds_toArray, List.set_cons_zero, List.set_cons_succ, i64_w, i32_w]; rfl)
           refine pur (i := 31) (N := some 46) spec_FeedValid.m32 rfl rfl HT_.out ?_
           refine pur (i := 32) (N := some 47) spec_FeedValid.m33 rfl rfl HT_.out ?_
           refine pur (i := 33) (N := some 48) spec_FeedValid.m34 rfl rfl HT_.out ?_
           refine puo (i := 34) (N := some 49) spec_FeedValid.m35 rfl rfl HT_.out ?_
           refine puo (i := 35) (N := some 50) spec_FeedValid.m36 rfl rfl HT_.out ?_
           refine puo (i := 36) (N := some 51) spec_FeedValid.m37 rfl rfl HT_.out ?_
           refine puo (i := 37) (N := some 52) spec_FeedValid.m38 rfl rfl HT_.out ?_
           refine puo (i := 38) (N := some 53) spec_FeedValid.m39 rfl rfl HT_.out ?_
           refine puo (i := 39) (N := some 54) spec_FeedValid.m40 rfl rfl HT_.out ?_
           refine puo (i := 40) (N := some 55) spec_FeedValid.m41 rfl rfl HT_.out ?_
           refine puo (i := 41) (N := some 56) spec_FeedValid.m42 rfl rfl HT_.out ?_
           refine puo (i := 42) (N := some 57) spec_FeedValid.m43 rfl rfl HT_.out ?_
           refine puo (i := 43) (N := some 58) spec_FeedValid.m44 rfl rfl HT_.out ?_
           refine puo (i := 44) (N := some 59) spec_FeedValid.m45 rfl rfl HT_.out ?_
           refine puo (i := 45) (N := some 60) spec_FeedValid.m46 rfl rfl HT_.out ?_
           refine puo (i := 46) (N := some 61) spec_FeedValid.m47 rfl rfl HT_.out ?_
           refine pur (i := 47) (N := some 62) spec_FeedValid.m48 rfl rfl HT_.out ?_
           refine done_ (done_of HT_.out (by kernel_rfl)) ?_
           try go_wp2
           go_ret
           exact ⟨fe, bp HB.out⟩
          ·
           rw [if_neg c17] at H
           have c17b0 : (((rd_T75 l0 x3_1).f2) == ((rd_T75 l0 x3_1).f3)) = false := beq_eq_false_iff_ne.mpr c17
           have c17b1 : (((rd_T75 l0 x3_1).f2) != ((rd_T75 l0 x3_1).f3)) = true := bne_iff_ne.mpr c17
           by_cases c22 : x3_1 > 0
           ·
            rw [if_pos c22] at H
            have c22b0 : decide (0 < x3_1) = true := decide_eq_true c22
            clear c22
            obtain ⟨ji23, hji23⟩ : ∃ j_ : Int, (wrap64 (x3_1 - 1)) = j_ := ⟨_, rfl⟩
            replace H : (if 0 ≤ (ji23) then (if (ji23) < (l0.length : Int) then (if ((rd_T75 l0 x3_1).f0) ≤ ((rd_T75 l0 (ji23)).f0) then (some false) else (spec_FeedValid.l0 k1 l0 (wrap64 (x3_1 + 1)))) else (none)) else (none)) = some r := by first | (rw [hji23] at H; exact H) | (simp only [hji23] at H ⊢; exact H)
            (try rw [hji23] at A9)
            (try rw [hji23] at A11)
            (try rw [hji23] at A13)
            (try rw [hji23] at A15)
            have hji23w : (IntKind.i64.wrap (x3_1 - 1)) = ji23 := (i64_w _).trans hji23
            by_cases c24 : 0 ≤ (ji23)
            ·
             rw [if_pos c24] at H
             have c24b0 : decide (0 ≤ (ji23)) = true := decide_eq_true c24
             clear c24
             by_cases c25 : (ji23) < (l0.length : Int)
             ·
              rw [if_pos c25] at H
              have c25b0 : decide ((ji23) < (l0.length : Int)) = true := decide_eq_true c25
              clear c25
              by_cases c26 : ((rd_T75 l0 x3_1).f0) ≤ ((rd_T75 l0 (ji23)).f0)
              ·
               rw [if_pos c26] at H
               have c26b0 : decide (((rd_T75 l0 x3_1).f0) ≤ ((rd_T75 l0 (ji23)).f0)) = true := decide_eq_true c26
               clear c26
               obtain rfl := Option.some.inj H
               have p108 : 0 ≤ (x3_1 : Int) := of_decide_eq_true (by first | (with_reducible assumption) | assumption)
               have q108 : x3_1 < (l0.length : Int) := of_decide_eq_true (by first | (with_reducible assumption) | assumption)
               obtain ⟨ad108, e108, hx108_0, hx108_1, hx108_2, hx108_3⟩ := at_T75 HR0.out x3_1 p108 q108
               cases e108
               replace hx108_0 := hcx HB hx108_0
               replace hx108_1 := hcx HB hx108_1
               replace hx108_2 := hcx HB hx108_2
               replace hx108_3 := hcx HB hx108_3
               replace p108 := eq_true p108
               replace q108 := eq_true q108
               try go_wp2_with (first | ((with_reducible refine gate_dst (N := 4) rfl ?_); refine bxe (N := 4) (cs := #[.int .i64 0, .string (⟨#[]⟩ : ByteArray), .int .i64 0, .int .i64 0]) (t := 75) ?_; intro gb109 hg w27 hbox hb; have BK109 := Aside0.mk (hbox); have GW109 := an2 HB hg; have GE109 := an2 HB hg; replace HB := an0 HB hb; clear hb hbox hg; obtain ⟨hcz28_0, hcz28_1, hcz28_2, hcz28_3, hfz28_0, hfz28_1, hfz28_2, hfz28_3⟩ := cl4 BK109))
               have n0_ : Aside0 (((((w27.setCell ⟨gb109, 0, none⟩ (.int .i64 ((rd_T75 l0 x3_1).f0))).setCell ⟨gb109, 1, none⟩ (.string ((rd_T75 l0 x3_1).f1))).setCell ⟨gb109, 2, none⟩ (.int .i64 ((rd_T75 l0 x3_1).f2))).setCell ⟨gb109, 3, none⟩ (.int .i64 ((rd_T75 l0 x3_1).f3))).heap[gb109]? = some (.cells #[.int .i64 ((rd_T75 l0 x3_1).f0), .string ((rd_T75 l0 x3_1).f1), .int .i64 ((rd_T75 l0 x3_1).f2), .int .i64 ((rd_T75 l0 x3_1).f3)] 75 (0, 0))) := ⟨by (with_reducible repeat (first | refine blk_drewN ?_ _ | refine blk_drew ?_ | refine blk_alloc ?_ _)); refine blk_put (cs := #[.int .i64 ((rd_T75 l0 x3_1).f0), .string ((rd_T75 l0 x3_1).f1), .int .i64 ((rd_T75 l0 x3_1).f2), .int .i64 0]) ?_ 3 _ rfl; (with_reducible repeat (first | refine blk_drewN ?_ _ | refine blk_drew ?_ | refine blk_alloc ?_ _)); refine blk_put (cs := #[.int .i64 ((rd_T75 l0 x3_1).f0), .string ((rd_T75 l0 x3_1).f1), .int .i64 0, .int .i64 0]) ?_ 2 _ rfl; (with_reducible repeat (first | refine blk_drewN ?_ _ | refine blk_drew ?_ | refine blk_alloc ?_ _)); refine blk_put (cs := #[.int .i64 ((rd_T75 l0 x3_1).f0), .string (⟨#[]⟩ : ByteArray), .int .i64 0, .int .i64 0]) ?_ 1 _ rfl; (with_reducible repeat (first | refine blk_drewN ?_ _ | refine blk_drew ?_ | refine blk_alloc ?_ _)); refine blk_put (cs := #[.int .i64 0, .string (⟨#[]⟩ : ByteArray), .int .i64 0, .int .i64 0]) ?_ 0 _ rfl; (with_reducible repeat (first | refine blk_drewN ?_ _ | refine blk_drew ?_ | refine blk_alloc ?_ _)); exact BK109.out⟩
               have n1_ : Aside0 (Below w.heap.size w ((((w27.setCell ⟨gb109, 0, none⟩ (.int .i64 ((rd_T75 l0 x3_1).f0))).setCell ⟨gb109, 1, none⟩ (.string ((rd_T75 l0 x3_1).f1))).setCell ⟨gb109, 2, none⟩ (.int .i64 ((rd_T75 l0 x3_1).f2))).setCell ⟨gb109, 3, none⟩ (.int .i64 ((rd_T75 l0 x3_1).f3)))) := ⟨bp HB.out⟩
               (try clear BK109)
               (try clear HB)
               generalize ((((w27.setCell ⟨gb109, 0, none⟩ (.int .i64 ((rd_T75 l0 x3_1).f0))).setCell ⟨gb109, 1, none⟩ (.string ((rd_T75 l0 x3_1).f1))).setCell ⟨gb109, 2, none⟩ (.int .i64 ((rd_T75 l0 x3_1).f2))).setCell ⟨gb109, 3, none⟩ (.int .i64 ((rd_T75 l0 x3_1).f3))) = w29 at n0_ n1_ ⊢
               have BK109 := n0_
               have HB := n1_
               clear n0_ n1_
               have n0_ := Aside0.mk (blk_drew BK109.out)
               have n1_ := Aside0.mk (below_drew1 HB.out)
               clear BK109
               clear HB
               have BK109 := n0_
               have HB := n1_
               clear n0_ n1_
               have p114 : 0 ≤ ((ji23) : Int) := of_decide_eq_true (by first | (with_reducible assumption) | assumption)
               have q114 : (ji23) < (l0.length : Int) := of_decide_eq_true (by first | (with_reducible assumption) | assumption)
               obtain ⟨ad114, e114, hx114_0, hx114_1, hx114_2, hx114_3⟩ := at_T75 HR0.out (ji23) p114 q114
               have hw114_3 := hx114_3
               have hw114_2 := hx114_2
               have hw114_1 := hx114_1
               have hw114_0 := hx114_0
               obtain rfl : ad108 = ad114 := (by injection e114)
               replace hx114_0 := hcx HB hx114_0
               replace hx114_1 := hcx HB hx114_1
               replace hx114_2 := hcx HB hx114_2
               replace hx114_3 := hcx HB hx114_3
               replace p114 := eq_true p114
               replace q114 := eq_true q114
               refine start_ (n := 48) (S := fun w' => w'.cell? ⟨gb109, 0, none⟩ = some (.int .i64 ((rd_T75 l0 x3_1).f0)) ∧ w'.cell? ⟨gb109, 1, none⟩ = some (.string ((rd_T75 l0 x3_1).f1)) ∧ w'.cell? ⟨gb109, 2, none⟩ = some (.int .i64 ((rd_T75 l0 x3_1).f2)) ∧ w'.cell? ⟨gb109, 3, none⟩ = some (.int .i64 ((rd_T75 l0 x3_1).f3)) ∧ w'.cell? (ad108.add (((ji23)).toNat * 4)) = some (.int .i64 ((rd_T75 l0 (ji23)).f0)) ∧ w'.cell? ⟨(ad108.add (((ji23)).toNat * 4)).block, (ad108.add (((ji23)).toNat * 4)).off + 1, none⟩ = some (.string ((rd_T75 l0 (ji23)).f1)) ∧ w'.cell? ⟨(ad108.add (((ji23)).toNat * 4)).block, (ad108.add (((ji23)).toNat * 4)).off + 2, none⟩ = some (.int .i64 ((rd_T75 l0 (ji23)).f2)) ∧ w'.cell? ⟨(ad108.add (((ji23)).toNat * 4)).block, (ad108.add (((ji23)).toNat * 4)).off + 3, none⟩ = some (.int .i64 ((rd_T75 l0 (ji23)).f3))) (ds := []) spec_FeedValid.m0 (by kernel_rfl) rfl rfl ⟨(blk_cell BK109.out 0).trans rfl, (blk_cell BK109.out 1).trans rfl, (blk_cell BK109.out 2).trans rfl, (blk_cell BK109.out 3).trans rfl, (hcx HB hw114_0), (hcx HB hw114_1), (hcx HB hw114_2), (hcx HB hw114_3)⟩ (fun hHeld => ?_); refine with_tabW spec_FeedValid.tab5 spec_FeedValid.bits5 (fun HT_ HW_ => ?_)
               generalize w29.drew = w30 at BK109 HB hx114_0 hx114_1 hx114_2 hx114_3 hHeld ⊢
               refine pur (i := 0) (N := some 15) spec_FeedValid.m1 rfl rfl HT_.out ?_
               refine pur (i := 1) (N := some 16) spec_FeedValid.m2 rfl rfl HT_.out ?_
               refine pur (i := 2) (N := some 17) spec_FeedValid.m3 rfl rfl HT_.out ?_
               refine pur (i := 3) (N := some 18) spec_FeedValid.m4 rfl rfl HT_.out ?_
               refine take_ (i := 4) (N := some 19) (v := ?_) (a' := ?_) spec_FeedValid.m5 rfl rfl (take_ofW HT_.out HW_.out (by kernel_rfl)) (fun _ _ _ h => h) (Or.inl ⟨by rfl, ?_⟩) hHeld ?_ ?_
               rotate_left
               ·
                rintro w' ⟨s0, s1, s2, s3, s4, s5, s6, s7⟩
                go_simp
                with_reducible rfl
               rotate_left; focus (simp only [Act.put, List.setIfInBounds_toArray, List.set_cons_zero, List.set_cons_succ, i64_w, i32_w]; rfl)
               refine one_ (i := 5) (N := some 20) spec_FeedValid.m6 rfl rfl (one_of HT_.out (by kernel_rfl)) (by decide) (fun K hK => ?_)
               refine goes_ Try.func112 (by kernel_rfl) rfl #[.int .i64 ((rd_T75 l0 x3_1).f0), .int .i64 0, .int .i64 23] (by rfl) rfl rfl (by (try simp only [List.map_toArray, List.map_cons, List.map_nil]); first | done | rfl | (simp only [List.length_drop, List.length_take]; rfl)) ?_
               with_reducible refine (spec_l1In.calls ((rd_T75 l0 x3_1).f0) 0 23 true _ A9.out).mono ?_
               rintro e w' ⟨rfl, ⟨nd, rfl⟩⟩
               refine ⟨_, rfl, ?_⟩
               refine hK.out _ _ ⟨(blk_cell BK109.out 0).trans rfl, (blk_cell BK109.out 1).trans rfl, (blk_cell BK109.out 2).trans rfl, (blk_cell BK109.out 3).trans rfl, (hcx HB hw114_0), (hcx HB hw114_1), (hcx HB hw114_2), (hcx HB hw114_3)⟩ (fun hHeld => ?_)
               clear hK K
               refine norm_ (a' := ?_) ?_ ?_
               rotate_left
               ·
                show Act.put _ (some 20) _ = _
                simp only [Act.put, List.setIfInBounds_toArray, List.set_cons_zero, List.set_cons_succ, i64_w, i32_w]
                rfl
               refine pur (i := 6) (N := some 21) spec_FeedValid.m7 rfl rfl HT_.out ?_
               refine pur (i := 7) (N := some 22) spec_FeedValid.m8 rfl rfl HT_.out ?_
               refine pur (i := 8) (N := some 23) spec_FeedValid.m9 rfl rfl HT_.out ?_
               refine pur (i := 9) (N := some 24) spec_FeedValid.m10 rfl rfl HT_.out ?_
               refine take_ (i := 10) (N := some 25) (v := ?_) (a' := ?_) spec_FeedValid.m11 rfl rfl (take_ofW HT_.out HW_.out (by kernel_rfl)) (fun _ _ _ h => h) (Or.inl ⟨by rfl, ?_⟩) hHeld ?_ ?_
               rotate_left
               ·
                rintro w' ⟨s0, s1, s2, s3, s4, s5, s6, s7⟩
                go_simp
                with_reducible rfl
               rotate_left; focus (simp only [Act.put, List.setIfInBounds_toArray, List.set_cons_zero, List.set_cons_succ, i64_w, i32_w]; rfl)
               refine one_ (i := 11) (N := some 26) spec_FeedValid.m12 rfl rfl (one_of HT_.out (by kernel_rfl)) (by decide) (fun K hK => ?_)
               refine goes_ Try.func113 (by kernel_rfl) rfl #[.string ((rd_T75 l0 x3_1).f1)] (by rfl) rfl rfl (by (try simp only [List.map_toArray, List.map_cons, List.map_nil]); first | done | rfl | (simp only [List.length_drop, List.length_take]; rfl)) ?_
               with_reducible refine (spec_KeyValid.calls k1 ((rd_T75 l0 x3_1).f1) true _ A11.out).mono ?_
               rintro e w' ⟨rfl, ⟨nd, rfl⟩⟩
               refine ⟨_, rfl, ?_⟩
               refine hK.out _ _ ⟨(blk_cell BK109.out 0).trans rfl, (blk_cell BK109.out 1).trans rfl, (blk_cell BK109.out 2).trans rfl, (blk_cell BK109.out 3).trans rfl, (hcx HB hw114_0), (hcx HB hw114_1), (hcx HB hw114_2), (hcx HB hw114_3)⟩ (fun hHeld => ?_)
               clear hK K
               refine norm_ (a' := ?_) ?_ ?_
               rotate_left
               ·
                show Act.put _ (some 26) _ = _
                simp only [Act.put, List.setIfInBounds_toArray, List.set_cons_zero, List.set_cons_succ, i64_w, i32_w]
                rfl
               refine pur (i := 12) (N := some 27) spec_FeedValid.m13 rfl rfl HT_.out ?_
               refine pur (i := 13) (N := some 28) spec_FeedValid.m14 rfl rfl HT_.out ?_
               refine pur (i := 14) (N := some 29) spec_FeedValid.m15 rfl rfl HT_.out ?_
               refine pur (i := 15) (N := some 30) spec_FeedValid.m16 rfl rfl HT_.out ?_
               refine take_ (i := 16) (N := some 31) (v := ?_) (a' := ?_) spec_FeedValid.m17 rfl rfl (take_ofW HT_.out HW_.out (by kernel_rfl)) (fun _ _ _ h => h) (Or.inl ⟨by rfl, ?_⟩) hHeld ?_ ?_
               rotate_left
               ·
                rintro w' ⟨s0, s1, s2, s3, s4, s5, s6, s7⟩
                go_simp
                with_reducible rfl
               rotate_left; focus (simp only [Act.put, List.setIfInBounds_toArray, List.set_cons_zero, List.set_cons_succ, i64_w, i32_w]; rfl)
               refine one_ (i := 17) (N := some 32) spec_FeedValid.m18 rfl rfl (one_of HT_.out (by kernel_rfl)) (by decide) (fun K hK => ?_)
               refine goes_ Try.func112 (by kernel_rfl) rfl #[.int .i64 ((rd_T75 l0 x3_1).f2), .int .i64 (-1), .int .i64 999] (by rfl) rfl rfl (by (try simp only [List.map_toArray, List.map_cons, List.map_nil]); first | done | rfl | (simp only [List.length_drop, List.length_take]; rfl)) ?_
               with_reducible refine (spec_l1In.calls ((rd_T75 l0 x3_1).f2) (-1) 999 true _ A13.out).mono ?_
               rintro e w' ⟨rfl, ⟨nd, rfl⟩⟩
               refine ⟨_, rfl, ?_⟩
               refine hK.out _ _ ⟨(blk_cell BK109.out 0).trans rfl, (blk_cell BK109.out 1).trans rfl, (blk_cell BK109.out 2).trans rfl, (blk_cell BK109.out 3).trans rfl, (hcx HB hw114_0), (hcx HB hw114_1), (hcx HB hw114_2), (hcx HB hw114_3)⟩ (fun hHeld => ?_)
               clear hK K
               refine norm_ (a' := ?_) ?_ ?_
               rotate_left
               ·
                show Act.put _ (some 32) _ = _
                simp only [Act.put, List.setIfInBounds_toArray, List.set_cons_zero, List.set_cons_succ, i64_w, i32_w]
                rfl
               refine pur (i := 18) (N := some 33) spec_FeedValid.m19 rfl rfl HT_.out ?_
               refine pur (i := 19) (N := some 34) spec_FeedValid.m20 rfl rfl HT_.out ?_
               refine pur (i := 20) (N := some 35) spec_FeedValid.m21 rfl rfl HT_.out ?_
               refine pur (i := 21) (N := some 36) spec_FeedValid.m22 rfl rfl HT_.out ?_
               refine take_ (i := 22) (N := some 37) (v := ?_) (a' := ?_) spec_FeedValid.m23 rfl rfl (take_ofW HT_.out HW_.out (by kernel_rfl)) (fun _ _ _ h => h) (Or.inl ⟨by rfl, ?_⟩) hHeld ?_ ?_
               rotate_left
               ·
                rintro w' ⟨s0, s1, s2, s3, s4, s5, s6, s7⟩
                go_simp
                with_reducible rfl
               rotate_left; focus (simp only [Act.put, List.setIfInBounds_toArray, List.set_cons_zero, List.set_cons_succ, i64_w, i32_w]; rfl)
               refine one_ (i := 23) (N := some 38) spec_FeedValid.m24 rfl rfl (one_of HT_.out (by kernel_rfl)) (by decide) (fun K hK => ?_)
               refine goes_ Try.func112 (by kernel_rfl) rfl #[.int .i64 ((rd_T75 l0 x3_1).f3), .int .i64 (-1), .int .i64 999] (by rfl) rfl rfl (by (try simp only [List.map_toArray, List.map_cons, List.map_nil]); first | done | rfl | (simp only [List.length_drop, List.length_take]; rfl)) ?_
               with_reducible refine (spec_l1In.calls ((rd_T75 l0 x3_1).f3) (-1) 999 true _ A15.out).mono ?_
               rintro e w' ⟨rfl, ⟨nd, rfl⟩⟩
               refine ⟨_, rfl, ?_⟩
               refine hK.out _ _ ⟨(blk_cell BK109.out 0).trans rfl, (blk_cell BK109.out 1).trans rfl, (blk_cell BK109.out 2).trans rfl, (blk_cell BK109.out 3).trans rfl, (hcx HB hw114_0), (hcx HB hw114_1), (hcx HB hw114_2), (hcx HB hw114_3)⟩ (fun hHeld => ?_)
               clear hK K
               refine norm_ (a' := ?_) ?_ ?_
               rotate_left
               ·
                show Act.put _ (some 38) _ = _
                simp only [Act.put, List.setIfInBounds_toArray, List.set_cons_zero, List.set_cons_succ, i64_w, i32_w]
                rfl
               refine pur (i := 24) (N := some 39) spec_FeedValid.m25 rfl rfl HT_.out ?_
               refine pur (i := 25) (N := some 40) spec_FeedValid.m26 rfl rfl HT_.out ?_
               refine pur (i := 26) (N := some 41) spec_FeedValid.m27 rfl rfl HT_.out ?_
               refine pur (i := 27) (N := some 42) spec_FeedValid.m28 rfl rfl HT_.out ?_
               refine pur (i := 29) (N := some 44) spec_FeedValid.m49 rfl rfl HT_.out ?_
               refine take_ (i := 28) (N := some 43) (v := ?_) (a' := ?_) spec_FeedValid.m30 rfl rfl (take_ofW HT_.out HW_.out (by kernel_rfl)) (fun _ _ _ h => h) (Or.inl ⟨by rfl, ?_⟩) hHeld ?_ ?_
               rotate_left
               ·
                rintro w' ⟨s0, s1, s2, s3, s4, s5, s6, s7⟩
                go_simp
                with_reducible rfl
               rotate_left; focus (simp only [Act.put, List.setIfInBounds_toArray, List.set_cons_zero, List.set_cons_succ, i64_w, i32_w]; rfl)
               refine take_ (i := 30) (N := some 45) (v := ?_) (a' := ?_) spec_FeedValid.m31 rfl rfl (take_ofW HT_.out HW_.out (by kernel_rfl)) (fun _ _ _ h => h) (Or.inl ⟨by rfl, ?_⟩) hHeld ?_ ?_
               rotate_left
               ·
                rintro w' ⟨s0, s1, s2, s3, s4, s5, s6, s7⟩
                go_simp
                with_reducible rfl
               rotate_left; focus (simp only [Act.put, List.setIfInBounds_toArray, List.set_cons_zero, List.set_cons_succ, i64_w, i32_w]; rfl)
               refine pur (i := 31) (N := some 46) spec_FeedValid.m32 rfl rfl HT_.out ?_
               refine pur (i := 32) (N := some 47) spec_FeedValid.m33 rfl rfl HT_.out ?_
               refine pur (i := 33) (N := some 48) spec_FeedValid.m34 rfl rfl HT_.out ?_
               refine pur (i := 34) (N := some 49) spec_FeedValid.m35 rfl rfl HT_.out ?_
               refine pur (i := 35) (N := some 50) spec_FeedValid.m36 rfl rfl HT_.out ?_
               refine pur (i := 36) (N := some 51) spec_FeedValid.m37 rfl rfl HT_.out ?_
               refine pur (i := 37) (N := some 52) spec_FeedValid.m38 rfl rfl HT_.out ?_
               refine pur (i := 39) (N := some 54) spec_FeedValid.m50 rfl rfl HT_.out ?_
               refine pur (i := 40) (N := some 55) spec_FeedValid.m51 rfl rfl HT_.out ?_
               refine pur (i := 41) (N := some 56) spec_FeedValid.m52 rfl rfl HT_.out ?_
               refine pur (i := 42) (N := some 57) spec_FeedValid.m53 rfl rfl HT_.out ?_
               refine pur (i := 43) (N := some 58) spec_FeedValid.m54 rfl rfl HT_.out ?_
               refine take_ (i := 38) (N := some 53) (v := ?_) (a' := ?_) spec_FeedValid.m44 rfl rfl (take_ofW HT_.out HW_.out (by kernel_rfl)) (fun _ _ _ h => h) (Or.inl ⟨by rfl, ?_⟩) hHeld ?_ ?_
               rotate_left
               ·
                rintro w' ⟨s0, s1, s2, s3, s4, s5, s6, s7⟩
                go_simp
                with_reducible rfl
               rotate_left; focus (simp only [Act.put, List.setIfInBounds_toArray, List.set_cons_zero, List.set_cons_succ, i64_w, i32_w]; rfl)
               refine take_ (i := 44) (N := some 59) (v := ?_) (a' := ?_) spec_FeedValid.m45 rfl rfl (take_ofW HT_.out HW_.out (by kernel_rfl)) (fun _ _ _ h => h) (Or.inl ⟨by rfl, ?_⟩) hHeld ?_ ?_
               rotate_left
               ·
                rintro w' ⟨s0, s1, s2, s3, s4, s5, s6, s7⟩
                go_simp
                with_reducible rfl
               rotate_left; focus (simp only [Act.put, List.setIfInBounds_toArray, List.set_cons_zero, List.set_cons_succ, i64_w, i32_w]; rfl)
               refine pur (i := 45) (N := some 60) spec_FeedValid.m46 rfl rfl HT_.out ?_
               refine pur (i := 46) (N := some 61) spec_FeedValid.m47 rfl rfl HT_.out ?_
               refine pur (i := 47) (N := some 62) spec_FeedValid.m48 rfl rfl HT_.out ?_
               refine done_ (done_of HT_.out (by kernel_rfl)) ?_
               try go_wp2
               go_ret
               exact ⟨by first | rfl | (simp [errW_none, errW_some] <;> rfl) | (simp only [← hji23]; first | rfl | (simp [errW_none, errW_some] <;> rfl)) | (simp [*, errW_none, errW_some] <;> rfl) | (simp only [IntKind.wrap_u8, show ∀ n_ : Int, wrap64 (n_ % 256) = n_ % 256 from fun n_ => by unfold wrap64; omega]; rfl), bp HB.out⟩
              ·
               rw [if_neg c26] at H
               have c26b0 : decide (((rd_T75 l0 x3_1).f0) ≤ ((rd_T75 l0 (ji23)).f0)) = false := decide_eq_false c26
               clear c26
               have H' := Aside0.mk H
               clear H
               have p108 : 0 ≤ (x3_1 : Int) := of_decide_eq_true (by first | (with_reducible assumption) | assumption)
               have q108 : x3_1 < (l0.length : Int) := of_decide_eq_true (by first | (with_reducible assumption) | assumption)
               obtain ⟨ad108, e108, hx108_0, hx108_1, hx108_2, hx108_3⟩ := at_T75 HR0.out x3_1 p108 q108
               cases e108
               replace hx108_0 := hcx HB hx108_0
               replace hx108_1 := hcx HB hx108_1
               replace hx108_2 := hcx HB hx108_2
               replace hx108_3 := hcx HB hx108_3
               replace p108 := eq_true p108
               replace q108 := eq_true q108
               try go_wp2_with (first | ((with_reducible refine gate_dst (N := 4) rfl ?_); refine bxe (N := 4) (cs := #[.int .i64 0, .string (⟨#[]⟩ : ByteArray), .int .i64 0, .int .i64 0]) (t := 75) ?_; intro gb109 hg w31 hbox hb; have BK109 := Aside0.mk (hbox); have GW109 := an2 HB hg; have GE109 := an2 HB hg; replace HB := an0 HB hb; clear hb hbox hg; obtain ⟨hcz32_0, hcz32_1, hcz32_2, hcz32_3, hfz32_0, hfz32_1, hfz32_2, hfz32_3⟩ := cl4 BK109))
               have n0_ : Aside0 (((((w31.setCell ⟨gb109, 0, none⟩ (.int .i64 ((rd_T75 l0 x3_1).f0))).setCell ⟨gb109, 1, none⟩ (.string ((rd_T75 l0 x3_1).f1))).setCell ⟨gb109, 2, none⟩ (.int .i64 ((rd_T75 l0 x3_1).f2))).setCell ⟨gb109, 3, none⟩ (.int .i64 ((rd_T75 l0 x3_1).f3))).heap[gb109]? = some (.cells #[.int .i64 ((rd_T75 l0 x3_1).f0), .string ((rd_T75 l0 x3_1).f1), .int .i64 ((rd_T75 l0 x3_1).f2), .int .i64 ((rd_T75 l0 x3_1).f3)] 75 (0, 0))) := ⟨by (with_reducible repeat (first | refine blk_drewN ?_ _ | refine blk_drew ?_ | refine blk_alloc ?_ _)); refine blk_put (cs := #[.int .i64 ((rd_T75 l0 x3_1).f0), .string ((rd_T75 l0 x3_1).f1), .int .i64 ((rd_T75 l0 x3_1).f2), .int .i64 0]) ?_ 3 _ rfl; (with_reducible repeat (first | refine blk_drewN ?_ _ | refine blk_drew ?_ | refine blk_alloc ?_ _)); refine blk_put (cs := #[.int .i64 ((rd_T75 l0 x3_1).f0), .string ((rd_T75 l0 x3_1).f1), .int .i64 0, .int .i64 0]) ?_ 2 _ rfl; (with_reducible repeat (first | refine blk_drewN ?_ _ | refine blk_drew ?_ | refine blk_alloc ?_ _)); refine blk_put (cs := #[.int .i64 ((rd_T75 l0 x3_1).f0), .string (⟨#[]⟩ : ByteArray), .int .i64 0, .int .i64 0]) ?_ 1 _ rfl; (with_reducible repeat (first | refine blk_drewN ?_ _ | refine blk_drew ?_ | refine blk_alloc ?_ _)); refine blk_put (cs := #[.int .i64 0, .string (⟨#[]⟩ : ByteArray), .int .i64 0, .int .i64 0]) ?_ 0 _ rfl; (with_reducible repeat (first | refine blk_drewN ?_ _ | refine blk_drew ?_ | refine blk_alloc ?_ _)); exact BK109.out⟩
               have n1_ : Aside0 (Below w.heap.size w ((((w31.setCell ⟨gb109, 0, none⟩ (.int .i64 ((rd_T75 l0 x3_1).f0))).setCell ⟨gb109, 1, none⟩ (.string ((rd_T75 l0 x3_1).f1))).setCell ⟨gb109, 2, none⟩ (.int .i64 ((rd_T75 l0 x3_1).f2))).setCell ⟨gb109, 3, none⟩ (.int .i64 ((rd_T75 l0 x3_1).f3)))) := ⟨bp HB.out⟩
               (try clear BK109)
               (try clear HB)
               generalize ((((w31.setCell ⟨gb109, 0, none⟩ (.int .i64 ((rd_T75 l0 x3_1).f0))).setCell ⟨gb109, 1, none⟩ (.string ((rd_T75 l0 x3_1).f1))).setCell ⟨gb109, 2, none⟩ (.int .i64 ((rd_T75 l0 x3_1).f2))).setCell ⟨gb109, 3, none⟩ (.int .i64 ((rd_T75 l0 x3_1).f3))) = w33 at n0_ n1_ ⊢
               have BK109 := n0_
               have HB := n1_
               clear n0_ n1_
               have n0_ := Aside0.mk (blk_drew BK109.out)
               have n1_ := Aside0.mk (below_drew1 HB.out)
               clear BK109
               clear HB
               have BK109 := n0_
               have HB := n1_
               clear n0_ n1_
               have p114 : 0 ≤ ((ji23) : Int) := of_decide_eq_true (by first | (with_reducible assumption) | assumption)
               have q114 : (ji23) < (l0.length : Int) := of_decide_eq_true (by first | (with_reducible assumption) | assumption)
               obtain ⟨ad114, e114, hx114_0, hx114_1, hx114_2, hx114_3⟩ := at_T75 HR0.out (ji23) p114 q114
               have hw114_3 := hx114_3
               have hw114_2 := hx114_2
               have hw114_1 := hx114_1
               have hw114_0 := hx114_0
               obtain rfl : ad108 = ad114 := (by injection e114)
               replace hx114_0 := hcx HB hx114_0
               replace hx114_1 := hcx HB hx114_1
               replace hx114_2 := hcx HB hx114_2
               replace hx114_3 := hcx HB hx114_3
               replace p114 := eq_true p114
               replace q114 := eq_true q114
               refine start_ (n := 48) (S := fun w' => w'.cell? ⟨gb109, 0, none⟩ = some (.int .i64 ((rd_T75 l0 x3_1).f0)) ∧ w'.cell? ⟨gb109, 1, none⟩ = some (.string ((rd_T75 l0 x3_1).f1)) ∧ w'.cell? ⟨gb109, 2, none⟩ = some (.int .i64 ((rd_T75 l0 x3_1).f2)) ∧ w'.cell? ⟨gb109, 3, none⟩ = some (.int .i64 ((rd_T75 l0 x3_1).f3)) ∧ w'.cell? (ad108.add (((ji23)).toNat * 4)) = some (.int .i64 ((rd_T75 l0 (ji23)).f0)) ∧ w'.cell? ⟨(ad108.add (((ji23)).toNat * 4)).block, (ad108.add (((ji23)).toNat * 4)).off + 1, none⟩ = some (.string ((rd_T75 l0 (ji23)).f1)) ∧ w'.cell? ⟨(ad108.add (((ji23)).toNat * 4)).block, (ad108.add (((ji23)).toNat * 4)).off + 2, none⟩ = some (.int .i64 ((rd_T75 l0 (ji23)).f2)) ∧ w'.cell? ⟨(ad108.add (((ji23)).toNat * 4)).block, (ad108.add (((ji23)).toNat * 4)).off + 3, none⟩ = some (.int .i64 ((rd_T75 l0 (ji23)).f3))) (ds := []) spec_FeedValid.m0 (by kernel_rfl) rfl rfl ⟨(blk_cell BK109.out 0).trans rfl, (blk_cell BK109.out 1).trans rfl, (blk_cell BK109.out 2).trans rfl, (blk_cell BK109.out 3).trans rfl, (hcx HB hw114_0), (hcx HB hw114_1), (hcx HB hw114_2), (hcx HB hw114_3)⟩ (fun hHeld => ?_); refine with_tabW spec_FeedValid.tab5 spec_FeedValid.bits5 (fun HT_ HW_ => ?_)
               generalize w33.drew = w34 at BK109 HB hx114_0 hx114_1 hx114_2 hx114_3 hHeld ⊢
               refine pur (i := 0) (N := some 15) spec_FeedValid.m1 rfl rfl HT_.out ?_
               refine pur (i := 1) (N := some 16) spec_FeedValid.m2 rfl rfl HT_.out ?_
               refine pur (i := 2) (N := some 17) spec_FeedValid.m3 rfl rfl HT_.out ?_
               refine pur (i := 3) (N := some 18) spec_FeedValid.m4 rfl rfl HT_.out ?_
               refine take_ (i := 4) (N := some 19) (v := ?_) (a' := ?_) spec_FeedValid.m5 rfl rfl (take_ofW HT_.out HW_.out (by kernel_rfl)) (fun _ _ _ h => h) (Or.inl ⟨by rfl, ?_⟩) hHeld ?_ ?_
               rotate_left
               ·
                rintro w' ⟨s0, s1, s2, s3, s4, s5, s6, s7⟩
                go_simp
                with_reducible rfl
               rotate_left; focus (simp only [Act.put, List.setIfInBounds_toArray, List.set_cons_zero, List.set_cons_succ, i64_w, i32_w]; rfl)
               refine one_ (i := 5) (N := some 20) spec_FeedValid.m6 rfl rfl (one_of HT_.out (by kernel_rfl)) (by decide) (fun K hK => ?_)
               refine goes_ Try.func112 (by kernel_rfl) rfl #[.int .i64 ((rd_T75 l0 x3_1).f0), .int .i64 0, .int .i64 23] (by rfl) rfl rfl (by (try simp only [List.map_toArray, List.map_cons, List.map_nil]); first | done | rfl | (simp only [List.length_drop, List.length_take]; rfl)) ?_
               with_reducible refine (spec_l1In.calls ((rd_T75 l0 x3_1).f0) 0 23 true _ A9.out).mono ?_
               rintro e w' ⟨rfl, ⟨nd, rfl⟩⟩
               refine ⟨_, rfl, ?_⟩
               refine hK.out _ _ ⟨(blk_cell BK109.out 0).trans rfl, (blk_cell BK109.out 1).trans rfl, (blk_cell BK109.out 2).trans rfl, (blk_cell BK109.out 3).trans rfl, (hcx HB hw114_0), (hcx HB hw114_1), (hcx HB hw114_2), (hcx HB hw114_3)⟩ (fun hHeld => ?_)
               clear hK K
               refine norm_ (a' := ?_) ?_ ?_
               rotate_left
               ·
                show Act.put _ (some 20) _ = _
                simp only [Act.put, List.setIfInBounds_toArray, List.set_cons_zero, List.set_cons_succ, i64_w, i32_w]
                rfl
               refine pur (i := 6) (N := some 21) spec_FeedValid.m7 rfl rfl HT_.out ?_
               refine pur (i := 7) (N := some 22) spec_FeedValid.m8 rfl rfl HT_.out ?_
               refine pur (i := 8) (N := some 23) spec_FeedValid.m9 rfl rfl HT_.out ?_
               refine pur (i := 9) (N := some 24) spec_FeedValid.m10 rfl rfl HT_.out ?_
               refine take_ (i := 10) (N := some 25) (v := ?_) (a' := ?_) spec_FeedValid.m11 rfl rfl (take_ofW HT_.out HW_.out (by kernel_rfl)) (fun _ _ _ h => h) (Or.inl ⟨by rfl, ?_⟩) hHeld ?_ ?_
               rotate_left
               ·
                rintro w' ⟨s0, s1, s2, s3, s4, s5, s6, s7⟩
                go_simp
                with_reducible rfl
               rotate_left; focus (simp only [Act.put, List.setIfInBounds_toArray, List.set_cons_zero, List.set_cons_succ, i64_w, i32_w]; rfl)
               refine one_ (i := 11) (N := some 26) spec_FeedValid.m12 rfl rfl (one_of HT_.out (by kernel_rfl)) (by decide) (fun K hK => ?_)
               refine goes_ Try.func113 (by kernel_rfl) rfl #[.string ((rd_T75 l0 x3_1).f1)] (by rfl) rfl rfl (by (try simp only [List.map_toArray, List.map_cons, List.map_nil]); first | done | rfl | (simp only [List.length_drop, List.length_take]; rfl)) ?_
               with_reducible refine (spec_KeyValid.calls k1 ((rd_T75 l0 x3_1).f1) true _ A11.out).mono ?_
               rintro e w' ⟨rfl, ⟨nd, rfl⟩⟩
               refine ⟨_, rfl, ?_⟩
               refine hK.out _ _ ⟨(blk_cell BK109.out 0).trans rfl, (blk_cell BK109.out 1).trans rfl, (blk_cell BK109.out 2).trans rfl, (blk_cell BK109.out 3).trans rfl, (hcx HB hw114_0), (hcx HB hw114_1), (hcx HB hw114_2), (hcx HB hw114_3)⟩ (fun hHeld => ?_)
               clear hK K
               refine norm_ (a' := ?_) ?_ ?_
               rotate_left
               ·
                show Act.put _ (some 26) _ = _
                simp only [Act.put, List.setIfInBounds_toArray, List.set_cons_zero, List.set_cons_succ, i64_w, i32_w]
                rfl
               refine pur (i := 12) (N := some 27) spec_FeedValid.m13 rfl rfl HT_.out ?_
               refine pur (i := 13) (N := some 28) spec_FeedValid.m14 rfl rfl HT_.out ?_
               refine pur (i := 14) (N := some 29) spec_FeedValid.m15 rfl rfl HT_.out ?_
               refine pur (i := 15) (N := some 30) spec_FeedValid.m16 rfl rfl HT_.out ?_
               refine take_ (i := 16) (N := some 31) (v := ?_) (a' := ?_) spec_FeedValid.m17 rfl rfl (take_ofW HT_.out HW_.out (by kernel_rfl)) (fun _ _ _ h => h) (Or.inl ⟨by rfl, ?_⟩) hHeld ?_ ?_
               rotate_left
               ·
                rintro w' ⟨s0, s1, s2, s3, s4, s5, s6, s7⟩
                go_simp
                with_reducible rfl
               rotate_left; focus (simp only [Act.put, List.setIfInBounds_toArray, List.set_cons_zero, List.set_cons_succ, i64_w, i32_w]; rfl)
               refine one_ (i := 17) (N := some 32) spec_FeedValid.m18 rfl rfl (one_of HT_.out (by kernel_rfl)) (by decide) (fun K hK => ?_)
               refine goes_ Try.func112 (by kernel_rfl) rfl #[.int .i64 ((rd_T75 l0 x3_1).f2), .int .i64 (-1), .int .i64 999] (by rfl) rfl rfl (by (try simp only [List.map_toArray, List.map_cons, List.map_nil]); first | done | rfl | (simp only [List.length_drop, List.length_take]; rfl)) ?_
               with_reducible refine (spec_l1In.calls ((rd_T75 l0 x3_1).f2) (-1) 999 true _ A13.out).mono ?_
               rintro e w' ⟨rfl, ⟨nd, rfl⟩⟩
               refine ⟨_, rfl, ?_⟩
               refine hK.out _ _ ⟨(blk_cell BK109.out 0).trans rfl, (blk_cell BK109.out 1).trans rfl, (blk_cell BK109.out 2).trans rfl, (blk_cell BK109.out 3).trans rfl, (hcx HB hw114_0), (hcx HB hw114_1), (hcx HB hw114_2), (hcx HB hw114_3)⟩ (fun hHeld => ?_)
               clear hK K
               refine norm_ (a' := ?_) ?_ ?_
               rotate_left
               ·
                show Act.put _ (some 32) _ = _
                simp only [Act.put, List.setIfInBounds_toArray, List.set_cons_zero, List.set_cons_succ, i64_w, i32_w]
                rfl
               refine pur (i := 18) (N := some 33) spec_FeedValid.m19 rfl rfl HT_.out ?_
               refine pur (i := 19) (N := some 34) spec_FeedValid.m20 rfl rfl HT_.out ?_
               refine pur (i := 20) (N := some 35) spec_FeedValid.m21 rfl rfl HT_.out ?_
               refine pur (i := 21) (N := some 36) spec_FeedValid.m22 rfl rfl HT_.out ?_
               refine take_ (i := 22) (N := some 37) (v := ?_) (a' := ?_) spec_FeedValid.m23 rfl rfl (take_ofW HT_.out HW_.out (by kernel_rfl)) (fun _ _ _ h => h) (Or.inl ⟨by rfl, ?_⟩) hHeld ?_ ?_
               rotate_left
               ·
                rintro w' ⟨s0, s1, s2, s3, s4, s5, s6, s7⟩
                go_simp
                with_reducible rfl
               rotate_left; focus (simp only [Act.put, List.setIfInBounds_toArray, List.set_cons_zero, List.set_cons_succ, i64_w, i32_w]; rfl)
               refine one_ (i := 23) (N := some 38) spec_FeedValid.m24 rfl rfl (one_of HT_.out (by kernel_rfl)) (by decide) (fun K hK => ?_)
               refine goes_ Try.func112 (by kernel_rfl) rfl #[.int .i64 ((rd_T75 l0 x3_1).f3), .int .i64 (-1), .int .i64 999] (by rfl) rfl rfl (by (try simp only [List.map_toArray, List.map_cons, List.map_nil]); first | done | rfl | (simp only [List.length_drop, List.length_take]; rfl)) ?_
               with_reducible refine (spec_l1In.calls ((rd_T75 l0 x3_1).f3) (-1) 999 true _ A15.out).mono ?_
               rintro e w' ⟨rfl, ⟨nd, rfl⟩⟩
               refine ⟨_, rfl, ?_⟩
               refine hK.out _ _ ⟨(blk_cell BK109.out 0).trans rfl, (blk_cell BK109.out 1).trans rfl, (blk_cell BK109.out 2).trans rfl, (blk_cell BK109.out 3).trans rfl, (hcx HB hw114_0), (hcx HB hw114_1), (hcx HB hw114_2), (hcx HB hw114_3)⟩ (fun hHeld => ?_)
               clear hK K
               refine norm_ (a' := ?_) ?_ ?_
               rotate_left
               ·
                show Act.put _ (some 38) _ = _
                simp only [Act.put, List.setIfInBounds_toArray, List.set_cons_zero, List.set_cons_succ, i64_w, i32_w]
                rfl
               refine pur (i := 24) (N := some 39) spec_FeedValid.m25 rfl rfl HT_.out ?_
               refine pur (i := 25) (N := some 40) spec_FeedValid.m26 rfl rfl HT_.out ?_
               refine pur (i := 26) (N := some 41) spec_FeedValid.m27 rfl rfl HT_.out ?_
               refine pur (i := 27) (N := some 42) spec_FeedValid.m28 rfl rfl HT_.out ?_
               refine pur (i := 29) (N := some 44) spec_FeedValid.m49 rfl rfl HT_.out ?_
               refine take_ (i := 28) (N := some 43) (v := ?_) (a' := ?_) spec_FeedValid.m30 rfl rfl (take_ofW HT_.out HW_.out (by kernel_rfl)) (fun _ _ _ h => h) (Or.inl ⟨by rfl, ?_⟩) hHeld ?_ ?_
               rotate_left
               ·
                rintro w' ⟨s0, s1, s2, s3, s4, s5, s6, s7⟩
                go_simp
                with_reducible rfl
               rotate_left; focus (simp only [Act.put, List.setIfInBounds_toArray, List.set_cons_zero, List.set_cons_succ, i64_w, i32_w]; rfl)
               refine take_ (i := 30) (N := some 45) (v := ?_) (a' := ?_) spec_FeedValid.m31 rfl rfl (take_ofW HT_.out HW_.out (by kernel_rfl)) (fun _ _ _ h => h) (Or.inl ⟨by rfl, ?_⟩) hHeld ?_ ?_
               rotate_left
               ·
                rintro w' ⟨s0, s1, s2, s3, s4, s5, s6, s7⟩
                go_simp
                with_reducible rfl
               rotate_left; focus (simp only [Act.put, List.setIfInBounds_toArray, List.set_cons_zero, List.set_cons_succ, i64_w, i32_w]; rfl)
               refine pur (i := 31) (N := some 46) spec_FeedValid.m32 rfl rfl HT_.out ?_
               refine pur (i := 32) (N := some 47) spec_FeedValid.m33 rfl rfl HT_.out ?_
               refine pur (i := 33) (N := some 48) spec_FeedValid.m34 rfl rfl HT_.out ?_
               refine pur (i := 34) (N := some 49) spec_FeedValid.m35 rfl rfl HT_.out ?_
               refine pur (i := 35) (N := some 50) spec_FeedValid.m36 rfl rfl HT_.out ?_
               refine pur (i := 36) (N := some 51) spec_FeedValid.m37 rfl rfl HT_.out ?_
               refine pur (i := 37) (N := some 52) spec_FeedValid.m38 rfl rfl HT_.out ?_
               refine pur (i := 39) (N := some 54) spec_FeedValid.m50 rfl rfl HT_.out ?_
               refine pur (i := 40) (N := some 55) spec_FeedValid.m51 rfl rfl HT_.out ?_
               refine pur (i := 41) (N := some 56) spec_FeedValid.m52 rfl rfl HT_.out ?_
               refine pur (i := 42) (N := some 57) spec_FeedValid.m53 rfl rfl HT_.out ?_
               refine pur (i := 43) (N := some 58) spec_FeedValid.m54 rfl rfl HT_.out ?_
               refine take_ (i := 38) (N := some 53) (v := ?_) (a' := ?_) spec_FeedValid.m44 rfl rfl (take_ofW HT_.out HW_.out (by kernel_rfl)) (fun _ _ _ h => h) (Or.inl ⟨by rfl, ?_⟩) hHeld ?_ ?_
               rotate_left
               ·
                rintro w' ⟨s0, s1, s2, s3, s4, s5, s6, s7⟩
                go_simp
                with_reducible rfl
               rotate_left; focus (simp only [Act.put, List.setIfInBounds_toArray, List.set_cons_zero, List.set_cons_succ, i64_w, i32_w]; rfl)
               refine take_ (i := 44) (N := some 59) (v := ?_) (a' := ?_) spec_FeedValid.m45 rfl rfl (take_ofW HT_.out HW_.out (by kernel_rfl)) (fun _ _ _ h => h) (Or.inl ⟨by rfl, ?_⟩) hHeld ?_ ?_
               rotate_left
               ·
                rintro w' ⟨s0, s1, s2, s3, s4, s5, s6, s7⟩
                go_simp
                with_reducible rfl
               rotate_left; focus (simp only [Act.put, List.setIfInBounds_toArray, List.set_cons_zero, List.set_cons_succ, i64_w, i32_w]; rfl)
               refine pur (i := 45) (N := some 60) spec_FeedValid.m46 rfl rfl HT_.out ?_
               refine pur (i := 46) (N := some 61) spec_FeedValid.m47 rfl rfl HT_.out ?_
               refine pur (i := 47) (N := some 62) spec_FeedValid.m48 rfl rfl HT_.out ?_
               refine done_ (done_of HT_.out (by kernel_rfl)) ?_
               try go_wp2
               go_roundg k1
               case measure => have := HK1.out; omega
               case rel => exact ⟨(wrap64 (x3_1 + 1)), (by first | rfl | (simp; done) | (simp [*]; done) | (simp [bne_nil_, beq_nil_]; done)), H', ⟨by have := HK1.out; omega⟩, ⟨bp HB.out⟩⟩
             ·
              rw [if_neg c25] at H
              exact absurd H (by simp)
            ·
             rw [if_neg c24] at H
             exact absurd H (by simp)
           ·
            rw [if_neg c22] at H
            have c22b0 : decide (0 < x3_1) = false := decide_eq_false c22
            clear c22
            have H' := Aside0.mk H
            clear H
            have p108 : 0 ≤ (x3_1 : Int) := of_decide_eq_true (by first | (with_reducible assumption) | assumption)
            have q108 : x3_1 < (l0.length : Int) := of_decide_eq_true (by first | (with_reducible assumption) | assumption)
            obtain ⟨ad108, e108, hx108_0, hx108_1, hx108_2, hx108_3⟩ := at_T75 HR0.out x3_1 p108 q108
            cases e108
            replace hx108_0 := hcx HB hx108_0
            replace hx108_1 := hcx HB hx108_1
            replace hx108_2 := hcx HB hx108_2
            replace hx108_3 := hcx HB hx108_3
            replace p108 := eq_true p108
            replace q108 := eq_true q108
            try go_wp2_with (first | ((with_reducible refine gate_dst (N := 4) rfl ?_); refine bxe (N := 4) (cs := #[.int .i64 0, .string (⟨#[]⟩ : ByteArray), .int .i64 0, .int .i64 0]) (t := 75) ?_; intro gb109 hg w35 hbox hb; have BK109 := Aside0.mk (hbox); have GW109 := an2 HB hg; have GE109 := an2 HB hg; replace HB := an0 HB hb; clear hb hbox hg; obtain ⟨hcz36_0, hcz36_1, hcz36_2, hcz36_3, hfz36_0, hfz36_1, hfz36_2, hfz36_3⟩ := cl4 BK109))
            have n0_ : Aside0 (((((w35.setCell ⟨gb109, 0, none⟩ (.int .i64 ((rd_T75 l0 x3_1).f0))).setCell ⟨gb109, 1, none⟩ (.string ((rd_T75 l0 x3_1).f1))).setCell ⟨gb109, 2, none⟩ (.int .i64 ((rd_T75 l0 x3_1).f2))).setCell ⟨gb109, 3, none⟩ (.int .i64 ((rd_T75 l0 x3_1).f3))).heap[gb109]? = some (.cells #[.int .i64 ((rd_T75 l0 x3_1).f0), .string ((rd_T75 l0 x3_1).f1), .int .i64 ((rd_T75 l0 x3_1).f2), .int .i64 ((rd_T75 l0 x3_1).f3)] 75 (0, 0))) := ⟨by (with_reducible repeat (first | refine blk_drewN ?_ _ | refine blk_drew ?_ | refine blk_alloc ?_ _)); refine blk_put (cs := #[.int .i64 ((rd_T75 l0 x3_1).f0), .string ((rd_T75 l0 x3_1).f1), .int .i64 ((rd_T75 l0 x3_1).f2), .int .i64 0]) ?_ 3 _ rfl; (with_reducible repeat (first | refine blk_drewN ?_ _ | refine blk_drew ?_ | refine blk_alloc ?_ _)); refine blk_put (cs := #[.int .i64 ((rd_T75 l0 x3_1).f0), .string ((rd_T75 l0 x3_1).f1), .int .i64 0, .int .i64 0]) ?_ 2 _ rfl; (with_reducible repeat (first | refine blk_drewN ?_ _ | refine blk_drew ?_ | refine blk_alloc ?_ _)); refine blk_put (cs := #[.int .i64 ((rd_T75 l0 x3_1).f0), .string (⟨#[]⟩ : ByteArray), .int .i64 0, .int .i64 0]) ?_ 1 _ rfl; (with_reducible repeat (first | refine blk_drewN ?_ _ | refine blk_drew ?_ | refine blk_alloc ?_ _)); refine blk_put (cs := #[.int .i64 0, .string (⟨#[]⟩ : ByteArray), .int .i64 0, .int .i64 0]) ?_ 0 _ rfl; (with_reducible repeat (first | refine blk_drewN ?_ _ | refine blk_drew ?_ | refine blk_alloc ?_ _)); exact BK109.out⟩
            have n1_ : Aside0 (Below w.heap.size w ((((w35.setCell ⟨gb109, 0, none⟩ (.int .i64 ((rd_T75 l0 x3_1).f0))).setCell ⟨gb109, 1, none⟩ (.string ((rd_T75 l0 x3_1).f1))).setCell ⟨gb109, 2, none⟩ (.int .i64 ((rd_T75 l0 x3_1).f2))).setCell ⟨gb109, 3, none⟩ (.int .i64 ((rd_T75 l0 x3_1).f3)))) := ⟨bp HB.out⟩
            (try clear BK109)
            (try clear HB)
            generalize ((((w35.setCell ⟨gb109, 0, none⟩ (.int .i64 ((rd_T75 l0 x3_1).f0))).setCell ⟨gb109, 1, none⟩ (.string ((rd_T75 l0 x3_1).f1))).setCell ⟨gb109, 2, none⟩ (.int .i64 ((rd_T75 l0 x3_1).f2))).setCell ⟨gb109, 3, none⟩ (.int .i64 ((rd_T75 l0 x3_1).f3))) = w37 at n0_ n1_ ⊢
            have BK109 := n0_
            have HB := n1_
            clear n0_ n1_
            have n0_ := Aside0.mk (blk_drew BK109.out)
            have n1_ := Aside0.mk (below_drew1 HB.out)
            clear BK109
            clear HB
            have BK109 := n0_
            have HB := n1_
            clear n0_ n1_
            refine start_ (n := 48) (S := fun w' => w'.cell? ⟨gb109, 0, none⟩ = some (.int .i64 ((rd_T75 l0 x3_1).f0)) ∧ w'.cell? ⟨gb109, 1, none⟩ = some (.string ((rd_T75 l0 x3_1).f1)) ∧ w'.cell? ⟨gb109, 2, none⟩ = some (.int .i64 ((rd_T75 l0 x3_1).f2)) ∧ w'.cell? ⟨gb109, 3, none⟩ = some (.int .i64 ((rd_T75 l0 x3_1).f3))) (ds := []) spec_FeedValid.m0 (by kernel_rfl) rfl rfl ⟨(blk_cell BK109.out 0).trans rfl, (blk_cell BK109.out 1).trans rfl, (blk_cell BK109.out 2).trans rfl, (blk_cell BK109.out 3).trans rfl⟩ (fun hHeld => ?_); refine with_tabW spec_FeedValid.tab5 spec_FeedValid.bits5 (fun HT_ HW_ => ?_)
            generalize w37.drew = w38 at BK109 HB hHeld ⊢
            refine pur (i := 0) (N := some 15) spec_FeedValid.m1 rfl rfl HT_.out ?_
            refine pur (i := 1) (N := some 16) spec_FeedValid.m2 rfl rfl HT_.out ?_
            refine pur (i := 2) (N := some 17) spec_FeedValid.m3 rfl rfl HT_.out ?_
            refine pur (i := 3) (N := some 18) spec_FeedValid.m4 rfl rfl HT_.out ?_
            refine take_ (i := 4) (N := some 19) (v := ?_) (a' := ?_) spec_FeedValid.m5 rfl rfl (take_ofW HT_.out HW_.out (by kernel_rfl)) (fun _ _ _ h => h) (Or.inl ⟨by rfl, ?_⟩) hHeld ?_ ?_
            rotate_left
            ·
             rintro w' ⟨s0, s1, s2, s3⟩
             go_simp
             with_reducible rfl
            rotate_left; focus (simp only [Act.put, List.setIfInBounds_toArray, List.set_cons_zero, List.set_cons_succ, i64_w, i32_w]; rfl)
            refine one_ (i := 5) (N := some 20) spec_FeedValid.m6 rfl rfl (one_of HT_.out (by kernel_rfl)) (by decide) (fun K hK => ?_)
            refine goes_ Try.func112 (by kernel_rfl) rfl #[.int .i64 ((rd_T75 l0 x3_1).f0), .int .i64 0, .int .i64 23] (by rfl) rfl rfl (by (try simp only [List.map_toArray, List.map_cons, List.map_nil]); first | done | rfl | (simp only [List.length_drop, List.length_take]; rfl)) ?_
            with_reducible refine (spec_l1In.calls ((rd_T75 l0 x3_1).f0) 0 23 true _ A9.out).mono ?_
            rintro e w' ⟨rfl, ⟨nd, rfl⟩⟩
            refine ⟨_, rfl, ?_⟩
            refine hK.out _ _ ⟨(blk_cell BK109.out 0).trans rfl, (blk_cell BK109.out 1).trans rfl, (blk_cell BK109.out 2).trans rfl, (blk_cell BK109.out 3).trans rfl⟩ (fun hHeld => ?_)
            clear hK K
            refine norm_ (a' := ?_) ?_ ?_
            rotate_left
            ·
             show Act.put _ (some 20) _ = _
             simp only [Act.put, List.setIfInBounds_toArray, List.set_cons_zero, List.set_cons_succ, i64_w, i32_w]
             rfl
            refine pur (i := 6) (N := some 21) spec_FeedValid.m7 rfl rfl HT_.out ?_
            refine pur (i := 7) (N := some 22) spec_FeedValid.m8 rfl rfl HT_.out ?_
            refine pur (i := 8) (N := some 23) spec_FeedValid.m9 rfl rfl HT_.out ?_
            refine pur (i := 9) (N := some 24) spec_FeedValid.m10 rfl rfl HT_.out ?_
            refine take_ (i := 10) (N := some 25) (v := ?_) (a' := ?_) spec_FeedValid.m11 rfl rfl (take_ofW HT_.out HW_.out (by kernel_rfl)) (fun _ _ _ h => h) (Or.inl ⟨by rfl, ?_⟩) hHeld ?_ ?_
            rotate_left
            ·
             rintro w' ⟨s0, s1, s2, s3⟩
             go_simp
             with_reducible rfl
            rotate_left; focus (simp only [Act.put, List.setIfInBounds_toArray, List.set_cons_zero, List.set_cons_succ, i64_w, i32_w]; rfl)
            refine one_ (i := 11) (N := some 26) spec_FeedValid.m12 rfl rfl (one_of HT_.out (by kernel_rfl)) (by decide) (fun K hK => ?_)
            refine goes_ Try.func113 (by kernel_rfl) rfl #[.string ((rd_T75 l0 x3_1).f1)] (by rfl) rfl rfl (by (try simp only [List.map_toArray, List.map_cons, List.map_nil]); first | done | rfl | (simp only [List.length_drop, List.length_take]; rfl)) ?_
            with_reducible refine (spec_KeyValid.calls k1 ((rd_T75 l0 x3_1).f1) true _ A11.out).mono ?_
            rintro e w' ⟨rfl, ⟨nd, rfl⟩⟩
            refine ⟨_, rfl, ?_⟩
            refine hK.out _ _ ⟨(blk_cell BK109.out 0).trans rfl, (blk_cell BK109.out 1).trans rfl, (blk_cell BK109.out 2).trans rfl, (blk_cell BK109.out 3).trans rfl⟩ (fun hHeld => ?_)
            clear hK K
            refine norm_ (a' := ?_) ?_ ?_
            rotate_left
            ·
             show Act.put _ (some 26) _ = _
             simp only [Act.put, List.setIfInBounds_toArray, List.set_cons_zero, List.set_cons_succ, i64_w, i32_w]
             rfl
            refine pur (i := 12) (N := some 27) spec_FeedValid.m13 rfl rfl HT_.out ?_
            refine pur (i := 13) (N := some 28) spec_FeedValid.m14 rfl rfl HT_.out ?_
            refine pur (i := 14) (N := some 29) spec_FeedValid.m15 rfl rfl HT_.out ?_
            refine pur (i := 15) (N := some 30) spec_FeedValid.m16 rfl rfl HT_.out ?_
            refine take_ (i := 16) (N := some 31) (v := ?_) (a' := ?_) spec_FeedValid.m17 rfl rfl (take_ofW HT_.out HW_.out (by kernel_rfl)) (fun _ _ _ h => h) (Or.inl ⟨by rfl, ?_⟩) hHeld ?_ ?_
            rotate_left
            ·
             rintro w' ⟨s0, s1, s2, s3⟩
             go_simp
             with_reducible rfl
            rotate_left; focus (simp only [Act.put, List.setIfInBounds_toArray, List.set_cons_zero, List.set_cons_succ, i64_w, i32_w]; rfl)
            refine one_ (i := 17) (N := some 32) spec_FeedValid.m18 rfl rfl (one_of HT_.out (by kernel_rfl)) (by decide) (fun K hK => ?_)
            refine goes_ Try.func112 (by kernel_rfl) rfl #[.int .i64 ((rd_T75 l0 x3_1).f2), .int .i64 (-1), .int .i64 999] (by rfl) rfl rfl (by (try simp only [List.map_toArray, List.map_cons, List.map_nil]); first | done | rfl | (simp only [List.length_drop, List.length_take]; rfl)) ?_
            with_reducible refine (spec_l1In.calls ((rd_T75 l0 x3_1).f2) (-1) 999 true _ A13.out).mono ?_
            rintro e w' ⟨rfl, ⟨nd, rfl⟩⟩
            refine ⟨_, rfl, ?_⟩
            refine hK.out _ _ ⟨(blk_cell BK109.out 0).trans rfl, (blk_cell BK109.out 1).trans rfl, (blk_cell BK109.out 2).trans rfl, (blk_cell BK109.out 3).trans rfl⟩ (fun hHeld => ?_)
            clear hK K
            refine norm_ (a' := ?_) ?_ ?_
            rotate_left
            ·
             show Act.put _ (some 32) _ = _
             simp only [Act.put, List.setIfInBounds_toArray, List.set_cons_zero, List.set_cons_succ, i64_w, i32_w]
             rfl
            refine pur (i := 18) (N := some 33) spec_FeedValid.m19 rfl rfl HT_.out ?_
            refine pur (i := 19) (N := some 34) spec_FeedValid.m20 rfl rfl HT_.out ?_
            refine pur (i := 20) (N := some 35) spec_FeedValid.m21 rfl rfl HT_.out ?_
            refine pur (i := 21) (N := some 36) spec_FeedValid.m22 rfl rfl HT_.out ?_
            refine take_ (i := 22) (N := some 37) (v := ?_) (a' := ?_) spec_FeedValid.m23 rfl rfl (take_ofW HT_.out HW_.out (by kernel_rfl)) (fun _ _ _ h => h) (Or.inl ⟨by rfl, ?_⟩) hHeld ?_ ?_
            rotate_left
            ·
             rintro w' ⟨s0, s1, s2, s3⟩
             go_simp
             with_reducible rfl
            rotate_left; focus (simp only [Act.put, List.setIfInBounds_toArray, List.set_cons_zero, List.set_cons_succ, i64_w, i32_w]; rfl)
            refine one_ (i := 23) (N := some 38) spec_FeedValid.m24 rfl rfl (one_of HT_.out (by kernel_rfl)) (by decide) (fun K hK => ?_)
            refine goes_ Try.func112 (by kernel_rfl) rfl #[.int .i64 ((rd_T75 l0 x3_1).f3), .int .i64 (-1), .int .i64 999] (by rfl) rfl rfl (by (try simp only [List.map_toArray, List.map_cons, List.map_nil]); first | done | rfl | (simp only [List.length_drop, List.length_take]; rfl)) ?_
            with_reducible refine (spec_l1In.calls ((rd_T75 l0 x3_1).f3) (-1) 999 true _ A15.out).mono ?_
            rintro e w' ⟨rfl, ⟨nd, rfl⟩⟩
            refine ⟨_, rfl, ?_⟩
            refine hK.out _ _ ⟨(blk_cell BK109.out 0).trans rfl, (blk_cell BK109.out 1).trans rfl, (blk_cell BK109.out 2).trans rfl, (blk_cell BK109.out 3).trans rfl⟩ (fun hHeld => ?_)
            clear hK K
            refine norm_ (a' := ?_) ?_ ?_
            rotate_left
            ·
             show Act.put _ (some 38) _ = _
             simp only [Act.put, List.setIfInBounds_toArray, List.set_cons_zero, List.set_cons_succ, i64_w, i32_w]
             rfl
            refine pur (i := 24) (N := some 39) spec_FeedValid.m25 rfl rfl HT_.out ?_
            refine pur (i := 25) (N := some 40) spec_FeedValid.m26 rfl rfl HT_.out ?_
            refine pur (i := 26) (N := some 41) spec_FeedValid.m27 rfl rfl HT_.out ?_
            refine pur (i := 27) (N := some 42) spec_FeedValid.m28 rfl rfl HT_.out ?_
            refine pur (i := 29) (N := some 44) spec_FeedValid.m49 rfl rfl HT_.out ?_
            refine take_ (i := 28) (N := some 43) (v := ?_) (a' := ?_) spec_FeedValid.m30 rfl rfl (take_ofW HT_.out HW_.out (by kernel_rfl)) (fun _ _ _ h => h) (Or.inl ⟨by rfl, ?_⟩) hHeld ?_ ?_
            rotate_left
            ·
             rintro w' ⟨s0, s1, s2, s3⟩
             go_simp
             with_reducible rfl
            rotate_left; focus (simp only [Act.put, List.setIfInBounds_toArray, List.set_cons_zero, List.set_cons_succ, i64_w, i32_w]; rfl)
            refine take_ (i := 30) (N := some 45) (v := ?_) (a' := ?_) spec_FeedValid.m31 rfl rfl (take_ofW HT_.out HW_.out (by kernel_rfl)) (fun _ _ _ h => h) (Or.inl ⟨by rfl, ?_⟩) hHeld ?_ ?_
            rotate_left
            ·
             rintro w' ⟨s0, s1, s2, s3⟩
             go_simp
             with_reducible rfl
            rotate_left; focus (simp only [Act.put, List.setIfInBounds_toArray, List.set_cons_zero, List.set_cons_succ, i64_w, i32_w]; rfl)
            refine pur (i := 31) (N := some 46) spec_FeedValid.m32 rfl rfl HT_.out ?_
            refine pur (i := 32) (N := some 47) spec_FeedValid.m33 rfl rfl HT_.out ?_
            refine pur (i := 33) (N := some 48) spec_FeedValid.m34 rfl rfl HT_.out ?_
            refine pur (i := 34) (N := some 49) spec_FeedValid.m35 rfl rfl HT_.out ?_
            refine pur (i := 35) (N := some 50) spec_FeedValid.m36 rfl rfl HT_.out ?_
            refine pur (i := 36) (N := some 51) spec_FeedValid.m37 rfl rfl HT_.out ?_
            refine puo (i := 37) (N := some 52) spec_FeedValid.m38 rfl rfl HT_.out ?_
            refine puo (i := 38) (N := some 53) spec_FeedValid.m39 rfl rfl HT_.out ?_
            refine puo (i := 39) (N := some 54) spec_FeedValid.m40 rfl rfl HT_.out ?_
            refine puo (i := 40) (N := some 55) spec_FeedValid.m41 rfl rfl HT_.out ?_
            refine puo (i := 41) (N := some 56) spec_FeedValid.m42 rfl rfl HT_.out ?_
            refine puo (i := 42) (N := some 57) spec_FeedValid.m43 rfl rfl HT_.out ?_
            refine puo (i := 43) (N := some 58) spec_FeedValid.m44 rfl rfl HT_.out ?_
            refine puo (i := 44) (N := some 59) spec_FeedValid.m45 rfl rfl HT_.out ?_
            refine puo (i := 45) (N := some 60) spec_FeedValid.m46 rfl rfl HT_.out ?_
            refine pur (i := 46) (N := some 61) spec_FeedValid.m47 rfl rfl HT_.out ?_
            refine pur (i := 47) (N := some 62) spec_FeedValid.m48 rfl rfl HT_.out ?_
            refine done_ (done_of HT_.out (by kernel_rfl)) ?_
            try go_wp2
            go_roundg k1
            case measure => have := HK1.out; omega
            case rel => exact ⟨(wrap64 (x3_1 + 1)), (by first | rfl | (simp; done) | (simp [*]; done) | (simp [bne_nil_, beq_nil_]; done)), H', ⟨by have := HK1.out; omega⟩, ⟨bp HB.out⟩⟩
         ·
          replace c16 := Bool.eq_false_iff.mpr c16
          subst c16
          have H1 : (some false) = some r := by rw [if_neg (show ¬ (false = true) by decide)] at H; exact H
          clear H
          have H := H1
          clear H1
          obtain rfl := Option.some.inj H
          have p108 : 0 ≤ (x3_1 : Int) := of_decide_eq_true (by first | (with_reducible assumption) | assumption)
          have q108 : x3_1 < (l0.length : Int) := of_decide_eq_true (by first | (with_reducible assumption) | assumption)
          obtain ⟨ad108, e108, hx108_0, hx108_1, hx108_2, hx108_3⟩ := at_T75 HR0.out x3_1 p108 q108
          cases e108
          replace hx108_0 := hcx HB hx108_0
          replace hx108_1 := hcx HB hx108_1
          replace hx108_2 := hcx HB hx108_2
          replace hx108_3 := hcx HB hx108_3
          replace p108 := eq_true p108
          replace q108 := eq_true q108
          try go_wp2_with (first | ((with_reducible refine gate_dst (N := 4) rfl ?_); refine bxe (N := 4) (cs := #[.int .i64 0, .string (⟨#[]⟩ : ByteArray), .int .i64 0, .int .i64 0]) (t := 75) ?_; intro gb109 hg w39 hbox hb; have BK109 := Aside0.mk (hbox); have GW109 := an2 HB hg; have GE109 := an2 HB hg; replace HB := an0 HB hb; clear hb hbox hg; obtain ⟨hcz40_0, hcz40_1, hcz40_2, hcz40_3, hfz40_0, hfz40_1, hfz40_2, hfz40_3⟩ := cl4 BK109))
          have n0_ : Aside0 (((((w39.setCell ⟨gb109, 0, none⟩ (.int .i64 ((rd_T75 l0 x3_1).f0))).setCell ⟨gb109, 1, none⟩ (.string ((rd_T75 l0 x3_1).f1))).setCell ⟨gb109, 2, none⟩ (.int .i64 ((rd_T75 l0 x3_1).f2))).setCell ⟨gb109, 3, none⟩ (.int .i64 ((rd_T75 l0 x3_1).f3))).heap[gb109]? = some (.cells #[.int .i64 ((rd_T75 l0 x3_1).f0), .string ((rd_T75 l0 x3_1).f1), .int .i64 ((rd_T75 l0 x3_1).f2), .int .i64 ((rd_T75 l0 x3_1).f3)] 75 (0, 0))) := ⟨by (with_reducible repeat (first | refine blk_drewN ?_ _ | refine blk_drew ?_ | refine blk_alloc ?_ _)); refine blk_put (cs := #[.int .i64 ((rd_T75 l0 x3_1).f0), .string ((rd_T75 l0 x3_1).f1), .int .i64 ((rd_T75 l0 x3_1).f2), .int .i64 0]) ?_ 3 _ rfl; (with_reducible repeat (first | refine blk_drewN ?_ _ | refine blk_drew ?_ | refine blk_alloc ?_ _)); refine blk_put (cs := #[.int .i64 ((rd_T75 l0 x3_1).f0), .string ((rd_T75 l0 x3_1).f1), .int .i64 0, .int .i64 0]) ?_ 2 _ rfl; (with_reducible repeat (first | refine blk_drewN ?_ _ | refine blk_drew ?_ | refine blk_alloc ?_ _)); refine blk_put (cs := #[.int .i64 ((rd_T75 l0 x3_1).f0), .string (⟨#[]⟩ : ByteArray), .int .i64 0, .int .i64 0]) ?_ 1 _ rfl; (with_reducible repeat (first | refine blk_drewN ?_ _ | refine blk_drew ?_ | refine blk_alloc ?_ _)); refine blk_put (cs := #[.int .i64 0, .string (⟨#[]⟩ : ByteArray), .int .i64 0, .int .i64 0]) ?_ 0 _ rfl; (with_reducible repeat (first | refine blk_drewN ?_ _ | refine blk_drew ?_ | refine blk_alloc ?_ _)); exact BK109.out⟩
          have n1_ : Aside0 (Below w.heap.size w ((((w39.setCell ⟨gb109, 0, none⟩ (.int .i64 ((rd_T75 l0 x3_1).f0))).setCell ⟨gb109, 1, none⟩ (.string ((rd_T75 l0 x3_1).f1))).setCell ⟨gb109, 2, none⟩ (.int .i64 ((rd_T75 l0 x3_1).f2))).setCell ⟨gb109, 3, none⟩ (.int .i64 ((rd_T75 l0 x3_1).f3)))) := ⟨bp HB.out⟩
          (try clear BK109)
          (try clear HB)
          generalize ((((w39.setCell ⟨gb109, 0, none⟩ (.int .i64 ((rd_T75 l0 x3_1).f0))).setCell ⟨gb109, 1, none⟩ (.string ((rd_T75 l0 x3_1).f1))).setCell ⟨gb109, 2, none⟩ (.int .i64 ((rd_T75 l0 x3_1).f2))).setCell ⟨gb109, 3, none⟩ (.int .i64 ((rd_T75 l0 x3_1).f3))) = w41 at n0_ n1_ ⊢
          have BK109 := n0_
          have HB := n1_
          clear n0_ n1_
          have n0_ := Aside0.mk (blk_drew BK109.out)
          have n1_ := Aside0.mk (below_drew1 HB.out)
          clear BK109
          clear HB
          have BK109 := n0_
          have HB := n1_
          clear n0_ n1_
          refine start_ (n := 48) (S := fun w' => w'.cell? ⟨gb109, 0, none⟩ = some (.int .i64 ((rd_T75 l0 x3_1).f0)) ∧ w'.cell? ⟨gb109, 1, none⟩ = some (.string ((rd_T75 l0 x3_1).f1)) ∧ w'.cell? ⟨gb109, 2, none⟩ = some (.int .i64 ((rd_T75 l0 x3_1).f2)) ∧ w'.cell? ⟨gb109, 3, none⟩ = some (.int .i64 ((rd_T75 l0 x3_1).f3))) (ds := []) spec_FeedValid.m0 (by kernel_rfl) rfl rfl ⟨(blk_cell BK109.out 0).trans rfl, (blk_cell BK109.out 1).trans rfl, (blk_cell BK109.out 2).trans rfl, (blk_cell BK109.out 3).trans rfl⟩ (fun hHeld => ?_); refine with_tabW spec_FeedValid.tab5 spec_FeedValid.bits5 (fun HT_ HW_ => ?_)
          generalize w41.drew = w42 at BK109 HB hHeld ⊢
          refine pur (i := 0) (N := some 15) spec_FeedValid.m1 rfl rfl HT_.out ?_
          refine pur (i := 1) (N := some 16) spec_FeedValid.m2 rfl rfl HT_.out ?_
          refine pur (i := 2) (N := some 17) spec_FeedValid.m3 rfl rfl HT_.out ?_
          refine pur (i := 3) (N := some 18) spec_FeedValid.m4 rfl rfl HT_.out ?_
          refine take_ (i := 4) (N := some 19) (v := ?_) (a' := ?_) spec_FeedValid.m5 rfl rfl (take_ofW HT_.out HW_.out (by kernel_rfl)) (fun _ _ _ h => h) (Or.inl ⟨by rfl, ?_⟩) hHeld ?_ ?_
          rotate_left
          ·
           rintro w' ⟨s0, s1, s2, s3⟩
           go_simp
           with_reducible rfl
          rotate_left; focus (simp only [Act.put, List.setIfInBounds_toArray, List.set_cons_zero, List.set_cons_succ, i64_w, i32_w]; rfl)
          refine one_ (i := 5) (N := some 20) spec_FeedValid.m6 rfl rfl (one_of HT_.out (by kernel_rfl)) (by decide) (fun K hK => ?_)
          refine goes_ Try.func112 (by kernel_rfl) rfl #[.int .i64 ((rd_T75 l0 x3_1).f0), .int .i64 0, .int .i64 23] (by rfl) rfl rfl (by (try simp only [List.map_toArray, List.map_cons, List.map_nil]); first | done | rfl | (simp only [List.length_drop, List.length_take]; rfl)) ?_
          with_reducible refine (spec_l1In.calls ((rd_T75 l0 x3_1).f0) 0 23 true _ A9.out).mono ?_
          rintro e w' ⟨rfl, ⟨nd, rfl⟩⟩
          refine ⟨_, rfl, ?_⟩
          refine hK.out _ _ ⟨(blk_cell BK109.out 0).trans rfl, (blk_cell BK109.out 1).trans rfl, (blk_cell BK109.out 2).trans rfl, (blk_cell BK109.out 3).trans rfl⟩ (fun hHeld => ?_)
          clear hK K
          refine norm_ (a' := ?_) ?_ ?_
          rotate_left
          ·
           show Act.put _ (some 20) _ = _
           simp only [Act.put, List.setIfInBounds_toArray, List.set_cons_zero, List.set_cons_succ, i64_w, i32_w]
           rfl
          refine pur (i := 6) (N := some 21) spec_FeedValid.m7 rfl rfl HT_.out ?_
          refine pur (i := 7) (N := some 22) spec_FeedValid.m8 rfl rfl HT_.out ?_
          refine pur (i := 8) (N := some 23) spec_FeedValid.m9 rfl rfl HT_.out ?_
          refine pur (i := 9) (N := some 24) spec_FeedValid.m10 rfl rfl HT_.out ?_
          refine take_ (i := 10) (N := some 25) (v := ?_) (a' := ?_) spec_FeedValid.m11 rfl rfl (take_ofW HT_.out HW_.out (by kernel_rfl)) (fun _ _ _ h => h) (Or.inl ⟨by rfl, ?_⟩) hHeld ?_ ?_
          rotate_left
          ·
           rintro w' ⟨s0, s1, s2, s3⟩
           go_simp
           with_reducible rfl
          rotate_left; focus (simp only [Act.put, List.setIfInBounds_toArray, List.set_cons_zero, List.set_cons_succ, i64_w, i32_w]; rfl)
          refine one_ (i := 11) (N := some 26) spec_FeedValid.m12 rfl rfl (one_of HT_.out (by kernel_rfl)) (by decide) (fun K hK => ?_)
          refine goes_ Try.func113 (by kernel_rfl) rfl #[.string ((rd_T75 l0 x3_1).f1)] (by rfl) rfl rfl (by (try simp only [List.map_toArray, List.map_cons, List.map_nil]); first | done | rfl | (simp only [List.length_drop, List.length_take]; rfl)) ?_
          with_reducible refine (spec_KeyValid.calls k1 ((rd_T75 l0 x3_1).f1) true _ A11.out).mono ?_
          rintro e w' ⟨rfl, ⟨nd, rfl⟩⟩
          refine ⟨_, rfl, ?_⟩
          refine hK.out _ _ ⟨(blk_cell BK109.out 0).trans rfl, (blk_cell BK109.out 1).trans rfl, (blk_cell BK109.out 2).trans rfl, (blk_cell BK109.out 3).trans rfl⟩ (fun hHeld => ?_)
          clear hK K
          refine norm_ (a' := ?_) ?_ ?_
          rotate_left
          ·
           show Act.put _ (some 26) _ = _
           simp only [Act.put, List.setIfInBounds_toArray, List.set_cons_zero, List.set_cons_succ, i64_w, i32_w]
           rfl
          refine pur (i := 12) (N := some 27) spec_FeedValid.m13 rfl rfl HT_.out ?_
          refine pur (i := 13) (N := some 28) spec_FeedValid.m14 rfl rfl HT_.out ?_
          refine pur (i := 14) (N := some 29) spec_FeedValid.m15 rfl rfl HT_.out ?_
          refine pur (i := 15) (N := some 30) spec_FeedValid.m16 rfl rfl HT_.out ?_
          refine take_ (i := 16) (N := some 31) (v := ?_) (a' := ?_) spec_FeedValid.m17 rfl rfl (take_ofW HT_.out HW_.out (by kernel_rfl)) (fun _ _ _ h => h) (Or.inl ⟨by rfl, ?_⟩) hHeld ?_ ?_
          rotate_left
          ·
           rintro w' ⟨s0, s1, s2, s3⟩
           go_simp
           with_reducible rfl
          rotate_left; focus (simp only [Act.put, List.setIfInBounds_toArray, List.set_cons_zero, List.set_cons_succ, i64_w, i32_w]; rfl)
          refine one_ (i := 17) (N := some 32) spec_FeedValid.m18 rfl rfl (one_of HT_.out (by kernel_rfl)) (by decide) (fun K hK => ?_)
          refine goes_ Try.func112 (by kernel_rfl) rfl #[.int .i64 ((rd_T75 l0 x3_1).f2), .int .i64 (-1), .int .i64 999] (by rfl) rfl rfl (by (try simp only [List.map_toArray, List.map_cons, List.map_nil]); first | done | rfl | (simp only [List.length_drop, List.length_take]; rfl)) ?_
          with_reducible refine (spec_l1In.calls ((rd_T75 l0 x3_1).f2) (-1) 999 true _ A13.out).mono ?_
          rintro e w' ⟨rfl, ⟨nd, rfl⟩⟩
          refine ⟨_, rfl, ?_⟩
          refine hK.out _ _ ⟨(blk_cell BK109.out 0).trans rfl, (blk_cell BK109.out 1).trans rfl, (blk_cell BK109.out 2).trans rfl, (blk_cell BK109.out 3).trans rfl⟩ (fun hHeld => ?_)
          clear hK K
          refine norm_ (a' := ?_) ?_ ?_
          rotate_left
          ·
           show Act.put _ (some 32) _ = _
           simp only [Act.put, List.setIfInBounds_toArray, List.set_cons_zero, List.set_cons_succ, i64_w, i32_w]
           rfl
          refine pur (i := 18) (N := some 33) spec_FeedValid.m19 rfl rfl HT_.out ?_
          refine pur (i := 19) (N := some 34) spec_FeedValid.m20 rfl rfl HT_.out ?_
          refine pur (i := 20) (N := some 35) spec_FeedValid.m21 rfl rfl HT_.out ?_
          refine pur (i := 21) (N := some 36) spec_FeedValid.m22 rfl rfl HT_.out ?_
          refine take_ (i := 22) (N := some 37) (v := ?_) (a' := ?_) spec_FeedValid.m23 rfl rfl (take_ofW HT_.out HW_.out (by kernel_rfl)) (fun _ _ _ h => h) (Or.inl ⟨by rfl, ?_⟩) hHeld ?_ ?_
          rotate_left
          ·
           rintro w' ⟨s0, s1, s2, s3⟩
           go_simp
           with_reducible rfl
          rotate_left; focus (simp only [Act.put, List.setIfInBounds_toArray, List.set_cons_zero, List.set_cons_succ, i64_w, i32_w]; rfl)
          refine one_ (i := 23) (N := some 38) spec_FeedValid.m24 rfl rfl (one_of HT_.out (by kernel_rfl)) (by decide) (fun K hK => ?_)
          refine goes_ Try.func112 (by kernel_rfl) rfl #[.int .i64 ((rd_T75 l0 x3_1).f3), .int .i64 (-1), .int .i64 999] (by rfl) rfl rfl (by (try simp only [List.map_toArray, List.map_cons, List.map_nil]); first | done | rfl | (simp only [List.length_drop, List.length_take]; rfl)) ?_
          with_reducible refine (spec_l1In.calls ((rd_T75 l0 x3_1).f3) (-1) 999 false _ A15.out).mono ?_
          rintro e w' ⟨rfl, ⟨nd, rfl⟩⟩
          refine ⟨_, rfl, ?_⟩
          refine hK.out _ _ ⟨(blk_cell BK109.out 0).trans rfl, (blk_cell BK109.out 1).trans rfl, (blk_cell BK109.out 2).trans rfl, (blk_cell BK109.out 3).trans rfl⟩ (fun hHeld => ?_)
          clear hK K
          refine norm_ (a' := ?_) ?_ ?_
          rotate_left
          ·
           show Act.put _ (some 38) _ = _
           simp only [Act.put, List.setIfInBounds_toArray, List.set_cons_zero, List.set_cons_succ, i64_w, i32_w]
           rfl
          refine pur (i := 24) (N := some 39) spec_FeedValid.m25 rfl rfl HT_.out ?_
          refine pur (i := 25) (N := some 40) spec_FeedValid.m26 rfl rfl HT_.out ?_
          refine pur (i := 26) (N := some 41) spec_FeedValid.m27 rfl rfl HT_.out ?_
          refine puo (i := 27) (N := some 42) spec_FeedValid.m28 rfl rfl HT_.out ?_
          refine puo (i := 28) (N := some 43) spec_FeedValid.m29 rfl rfl HT_.out ?_
          refine puo (i := 29) (N := some 44) spec_FeedValid.m30 rfl rfl HT_.out ?_
          refine puo (i := 30) (N := some 45) spec_FeedValid.m31 rfl rfl HT_.out ?_
          refine puo (i := 31) (N := some 46) spec_FeedValid.m32 rfl rfl HT_.out ?_
          refine pur (i := 32) (N := some 47) spec_FeedValid.m33 rfl rfl HT_.out ?_
          refine pur (i := 33) (N := some 48) spec_FeedValid.m34 rfl rfl HT_.out ?_
          refine puo (i := 34) (N := some 49) spec_FeedValid.m35 rfl rfl HT_.out ?_
          refine puo (i := 35) (N := some 50) spec_FeedValid.m36 rfl rfl HT_.out ?_
          refine puo (i := 36) (N := some 51) spec_FeedValid.m37 rfl rfl HT_.out ?_
          refine puo (i := 37) (N := some 52) spec_FeedValid.m38 rfl rfl HT_.out ?_
          refine puo (i := 38) (N := some 53) spec_FeedValid.m39 rfl rfl HT_.out ?_
          refine puo (i := 39) (N := some 54) spec_FeedValid.m40 rfl rfl HT_.out ?_
          refine puo (i := 40) (N := some 55) spec_FeedValid.m41 rfl rfl HT_.out ?_
          refine puo (i := 41) (N := some 56) spec_FeedValid.m42 rfl rfl HT_.out ?_
          refine puo (i := 42) (N := some 57) spec_FeedValid.m43 rfl rfl HT_.out ?_
          refine puo (i := 43) (N := some 58) spec_FeedValid.m44 rfl rfl HT_.out ?_
          refine puo (i := 44) (N := some 59) spec_FeedValid.m45 rfl rfl HT_.out ?_
          refine puo (i := 45) (N := some 60) spec_FeedValid.m46 rfl rfl HT_.out ?_
          refine puo (i := 46) (N := some 61) spec_FeedValid.m47 rfl rfl HT_.out ?_
          refine pur (i := 47) (N := some 62) spec_FeedValid.m48 rfl rfl HT_.out ?_
          refine done_ (done_of HT_.out (by kernel_rfl)) ?_
          try go_wp2
          go_ret
          exact ⟨fe, bp HB.out⟩
        ·
         replace c14 := Bool.eq_false_iff.mpr c14
         subst c14
         have H1 : (some false) = some r := by rw [if_neg (show ¬ (false = true) by decide)] at H; exact H
         clear H
         have H := H1
         clear H1
         obtain rfl := Option.some.inj H
         have p108 : 0 ≤ (x3_1 : Int) := of_decide_eq_true (by first | (with_reducible assumption) | assumption)
         have q108 : x3_1 < (l0.length : Int) := of_decide_eq_true (by first | (with_reducible assumption) | assumption)
         obtain ⟨ad108, e108, hx108_0, hx108_1, hx108_2, hx108_3⟩ := at_T75 HR0.out x3_1 p108 q108
         cases e108
         replace hx108_0 := hcx HB hx108_0
         replace hx108_1 := hcx HB hx108_1
         replace hx108_2 := hcx HB hx108_2
         replace hx108_3 := hcx HB hx108_3
         replace p108 := eq_true p108
         replace q108 := eq_true q108
         try go_wp2_with (first | ((with_reducible refine gate_dst (N := 4) rfl ?_); refine bxe (N := 4) (cs := #[.int .i64 0, .string (⟨#[]⟩ : ByteArray), .int .i64 0, .int .i64 0]) (t := 75) ?_; intro gb109 hg w43 hbox hb; have BK109 := Aside0.mk (hbox); have GW109 := an2 HB hg; have GE109 := an2 HB hg; replace HB := an0 HB hb; clear hb hbox hg; obtain ⟨hcz44_0, hcz44_1, hcz44_2, hcz44_3, hfz44_0, hfz44_1, hfz44_2, hfz44_3⟩ := cl4 BK109))
         have n0_ : Aside0 (((((w43.setCell ⟨gb109, 0, none⟩ (.int .i64 ((rd_T75 l0 x3_1).f0))).setCell ⟨gb109, 1, none⟩ (.string ((rd_T75 l0 x3_1).f1))).setCell ⟨gb109, 2, none⟩ (.int .i64 ((rd_T75 l0 x3_1).f2))).setCell ⟨gb109, 3, none⟩ (.int .i64 ((rd_T75 l0 x3_1).f3))).heap[gb109]? = some (.cells #[.int .i64 ((rd_T75 l0 x3_1).f0), .string ((rd_T75 l0 x3_1).f1), .int .i64 ((rd_T75 l0 x3_1).f2), .int .i64 ((rd_T75 l0 x3_1).f3)] 75 (0, 0))) := ⟨by (with_reducible repeat (first | refine blk_drewN ?_ _ | refine blk_drew ?_ | refine blk_alloc ?_ _)); refine blk_put (cs := #[.int .i64 ((rd_T75 l0 x3_1).f0), .string ((rd_T75 l0 x3_1).f1), .int .i64 ((rd_T75 l0 x3_1).f2), .int .i64 0]) ?_ 3 _ rfl; (with_reducible repeat (first | refine blk_drewN ?_ _ | refine blk_drew ?_ | refine blk_alloc ?_ _)); refine blk_put (cs := #[.int .i64 ((rd_T75 l0 x3_1).f0), .string ((rd_T75 l0 x3_1).f1), .int .i64 0, .int .i64 0]) ?_ 2 _ rfl; (with_reducible repeat (first | refine blk_drewN ?_ _ | refine blk_drew ?_ | refine blk_alloc ?_ _)); refine blk_put (cs := #[.int .i64 ((rd_T75 l0 x3_1).f0), .string (⟨#[]⟩ : ByteArray), .int .i64 0, .int .i64 0]) ?_ 1 _ rfl; (with_reducible repeat (first | refine blk_drewN ?_ _ | refine blk_drew ?_ | refine blk_alloc ?_ _)); refine blk_put (cs := #[.int .i64 0, .string (⟨#[]⟩ : ByteArray), .int .i64 0, .int .i64 0]) ?_ 0 _ rfl; (with_reducible repeat (first | refine blk_drewN ?_ _ | refine blk_drew ?_ | refine blk_alloc ?_ _)); exact BK109.out⟩
         have n1_ : Aside0 (Below w.heap.size w ((((w43.setCell ⟨gb109, 0, none⟩ (.int .i64 ((rd_T75 l0 x3_1).f0))).setCell ⟨gb109, 1, none⟩ (.string ((rd_T75 l0 x3_1).f1))).setCell ⟨gb109, 2, none⟩ (.int .i64 ((rd_T75 l0 x3_1).f2))).setCell ⟨gb109, 3, none⟩ (.int .i64 ((rd_T75 l0 x3_1).f3)))) := ⟨bp HB.out⟩
         (try clear BK109)
         (try clear HB)
         generalize ((((w43.setCell ⟨gb109, 0, none⟩ (.int .i64 ((rd_T75 l0 x3_1).f0))).setCell ⟨gb109, 1, none⟩ (.string ((rd_T75 l0 x3_1).f1))).setCell ⟨gb109, 2, none⟩ (.int .i64 ((rd_T75 l0 x3_1).f2))).setCell ⟨gb109, 3, none⟩ (.int .i64 ((rd_T75 l0 x3_1).f3))) = w45 at n0_ n1_ ⊢
         have BK109 := n0_
         have HB := n1_
         clear n0_ n1_
         have n0_ := Aside0.mk (blk_drew BK109.out)
         have n1_ := Aside0.mk (below_drew1 HB.out)
         clear BK109
         clear HB
         have BK109 := n0_
         have HB := n1_
         clear n0_ n1_
         refine start_ (n := 48) (S := fun w' => w'.cell? ⟨gb109, 0, none⟩ = some (.int .i64 ((rd_T75 l0 x3_1).f0)) ∧ w'.cell? ⟨gb109, 1, none⟩ = some (.string ((rd_T75 l0 x3_1).f1)) ∧ w'.cell? ⟨gb109, 2, none⟩ = some (.int .i64 ((rd_T75 l0 x3_1).f2)) ∧ w'.cell? ⟨gb109, 3, none⟩ = some (.int .i64 ((rd_T75 l0 x3_1).f3))) (ds := []) spec_FeedValid.m0 (by kernel_rfl) rfl rfl ⟨(blk_cell BK109.out 0).trans rfl, (blk_cell BK109.out 1).trans rfl, (blk_cell BK109.out 2).trans rfl, (blk_cell BK109.out 3).trans rfl⟩ (fun hHeld => ?_); refine with_tabW spec_FeedValid.tab5 spec_FeedValid.bits5 (fun HT_ HW_ => ?_)
         generalize w45.drew = w46 at BK109 HB hHeld ⊢
         refine pur (i := 0) (N := some 15) spec_FeedValid.m1 rfl rfl HT_.out ?_
         refine pur (i := 1) (N := some 16) spec_FeedValid.m2 rfl rfl HT_.out ?_
         refine pur (i := 2) (N := some 17) spec_FeedValid.m3 rfl rfl HT_.out ?_
         refine pur (i := 3) (N := some 18) spec_FeedValid.m4 rfl rfl HT_.out ?_
         refine take_ (i := 4) (N := some 19) (v := ?_) (a' := ?_) spec_FeedValid.m5 rfl rfl (take_ofW HT_.out HW_.out (by kernel_rfl)) (fun _ _ _ h => h) (Or.inl ⟨by rfl, ?_⟩) hHeld ?_ ?_
         rotate_left
         ·
          rintro w' ⟨s0, s1, s2, s3⟩
          go_simp
          with_reducible rfl
         rotate_left; focus (simp only [Act.put, List.setIfInBounds_toArray, List.set_cons_zero, List.set_cons_succ, i64_w, i32_w]; rfl)
         refine one_ (i := 5) (N := some 20) spec_FeedValid.m6 rfl rfl (one_of HT_.out (by kernel_rfl)) (by decide) (fun K hK => ?_)
         refine goes_ Try.func112 (by kernel_rfl) rfl #[.int .i64 ((rd_T75 l0 x3_1).f0), .int .i64 0, .int .i64 23] (by rfl) rfl rfl (by (try simp only [List.map_toArray, List.map_cons, List.map_nil]); first | done | rfl | (simp only [List.length_drop, List.length_take]; rfl)) ?_
         with_reducible refine (spec_l1In.calls ((rd_T75 l0 x3_1).f0) 0 23 true _ A9.out).mono ?_
         rintro e w' ⟨rfl, ⟨nd, rfl⟩⟩
         refine ⟨_, rfl, ?_⟩
         refine hK.out _ _ ⟨(blk_cell BK109.out 0).trans rfl, (blk_cell BK109.out 1).trans rfl, (blk_cell BK109.out 2).trans rfl, (blk_cell BK109.out 3).trans rfl⟩ (fun hHeld => ?_)
         clear hK K
         refine norm_ (a' := ?_) ?_ ?_
         rotate_left
         ·
          show Act.put _ (some 20) _ = _
          simp only [Act.put, List.setIfInBounds_toArray, List.set_cons_zero, List.set_cons_succ, i64_w, i32_w]
          rfl
         refine pur (i := 6) (N := some 21) spec_FeedValid.m7 rfl rfl HT_.out ?_
         refine pur (i := 7) (N := some 22) spec_FeedValid.m8 rfl rfl HT_.out ?_
         refine pur (i := 8) (N := some 23) spec_FeedValid.m9 rfl rfl HT_.out ?_
         refine pur (i := 9) (N := some 24) spec_FeedValid.m10 rfl rfl HT_.out ?_
         refine take_ (i := 10) (N := some 25) (v := ?_) (a' := ?_) spec_FeedValid.m11 rfl rfl (take_ofW HT_.out HW_.out (by kernel_rfl)) (fun _ _ _ h => h) (Or.inl ⟨by rfl, ?_⟩) hHeld ?_ ?_
         rotate_left
         ·
          rintro w' ⟨s0, s1, s2, s3⟩
          go_simp
          with_reducible rfl
         rotate_left; focus (simp only [Act.put, List.setIfInBounds_toArray, List.set_cons_zero, List.set_cons_succ, i64_w, i32_w]; rfl)
         refine one_ (i := 11) (N := some 26) spec_FeedValid.m12 rfl rfl (one_of HT_.out (by kernel_rfl)) (by decide) (fun K hK => ?_)
         refine goes_ Try.func113 (by kernel_rfl) rfl #[.string ((rd_T75 l0 x3_1).f1)] (by rfl) rfl rfl (by (try simp only [List.map_toArray, List.map_cons, List.map_nil]); first | done | rfl | (simp only [List.length_drop, List.length_take]; rfl)) ?_
         with_reducible refine (spec_KeyValid.calls k1 ((rd_T75 l0 x3_1).f1) true _ A11.out).mono ?_
         rintro e w' ⟨rfl, ⟨nd, rfl⟩⟩
         refine ⟨_, rfl, ?_⟩
         refine hK.out _ _ ⟨(blk_cell BK109.out 0).trans rfl, (blk_cell BK109.out 1).trans rfl, (blk_cell BK109.out 2).trans rfl, (blk_cell BK109.out 3).trans rfl⟩ (fun hHeld => ?_)
         clear hK K
         refine norm_ (a' := ?_) ?_ ?_
         rotate_left
         ·
          show Act.put _ (some 26) _ = _
          simp only [Act.put, List.setIfInBounds_toArray, List.set_cons_zero, List.set_cons_succ, i64_w, i32_w]
          rfl
         refine pur (i := 12) (N := some 27) spec_FeedValid.m13 rfl rfl HT_.out ?_
         refine pur (i := 13) (N := some 28) spec_FeedValid.m14 rfl rfl HT_.out ?_
         refine pur (i := 14) (N := some 29) spec_FeedValid.m15 rfl rfl HT_.out ?_
         refine pur (i := 15) (N := some 30) spec_FeedValid.m16 rfl rfl HT_.out ?_
         refine take_ (i := 16) (N := some 31) (v := ?_) (a' := ?_) spec_FeedValid.m17 rfl rfl (take_ofW HT_.out HW_.out (by kernel_rfl)) (fun _ _ _ h => h) (Or.inl ⟨by rfl, ?_⟩) hHeld ?_ ?_
         rotate_left
         ·
          rintro w' ⟨s0, s1, s2, s3⟩
          go_simp
          with_reducible rfl
         rotate_left; focus (simp only [Act.put, List.setIfInBounds_toArray, List.set_cons_zero, List.set_cons_succ, i64_w, i32_w]; rfl)
         refine one_ (i := 17) (N := some 32) spec_FeedValid.m18 rfl rfl (one_of HT_.out (by kernel_rfl)) (by decide) (fun K hK => ?_)
         refine goes_ Try.func112 (by kernel_rfl) rfl #[.int .i64 ((rd_T75 l0 x3_1).f2), .int .i64 (-1), .int .i64 999] (by rfl) rfl rfl (by (try simp only [List.map_toArray, List.map_cons, List.map_nil]); first | done | rfl | (simp only [List.length_drop, List.length_take]; rfl)) ?_
         with_reducible refine (spec_l1In.calls ((rd_T75 l0 x3_1).f2) (-1) 999 false _ A13.out).mono ?_
         rintro e w' ⟨rfl, ⟨nd, rfl⟩⟩
         refine ⟨_, rfl, ?_⟩
         refine hK.out _ _ ⟨(blk_cell BK109.out 0).trans rfl, (blk_cell BK109.out 1).trans rfl, (blk_cell BK109.out 2).trans rfl, (blk_cell BK109.out 3).trans rfl⟩ (fun hHeld => ?_)
         clear hK K
         refine norm_ (a' := ?_) ?_ ?_
         rotate_left
         ·
          show Act.put _ (some 32) _ = _
          simp only [Act.put, List.setIfInBounds_toArray, List.set_cons_zero, List.set_cons_succ, i64_w, i32_w]
          rfl
         refine pur (i := 18) (N := some 33) spec_FeedValid.m19 rfl rfl HT_.out ?_
         refine pur (i := 19) (N := some 34) spec_FeedValid.m20 rfl rfl HT_.out ?_
         refine pur (i := 20) (N := some 35) spec_FeedValid.m21 rfl rfl HT_.out ?_
         refine puo (i := 21) (N := some 36) spec_FeedValid.m22 rfl rfl HT_.out ?_
         refine puo (i := 22) (N := some 37) spec_FeedValid.m23 rfl rfl HT_.out ?_
         refine puo (i := 23) (N := some 38) spec_FeedValid.m24 rfl rfl HT_.out ?_
         refine puo (i := 24) (N := some 39) spec_FeedValid.m25 rfl rfl HT_.out ?_
         refine pur (i := 25) (N := some 40) spec_FeedValid.m26 rfl rfl HT_.out ?_
         refine pur (i := 26) (N := some 41) spec_FeedValid.m27 rfl rfl HT_.out ?_
         refine puo (i := 27) (N := some 42) spec_FeedValid.m28 rfl rfl HT_.out ?_
         refine puo (i := 28) (N := some 43) spec_FeedValid.m29 rfl rfl HT_.out ?_
         refine puo (i := 29) (N := some 44) spec_FeedValid.m30 rfl rfl HT_.out ?_
         refine puo (i := 30) (N := some 45) spec_FeedValid.m31 rfl rfl HT_.out ?_
         refine puo (i := 31) (N := some 46) spec_FeedValid.m32 rfl rfl HT_.out ?_
         refine pur (i := 32) (N := some 47) spec_FeedValid.m33 rfl rfl HT_.out ?_
         refine pur (i := 33) (N := some 48) spec_FeedValid.m34 rfl rfl HT_.out ?_
         refine puo (i := 34) (N := some 49) spec_FeedValid.m35 rfl rfl HT_.out ?_
         refine puo (i := 35) (N := some 50) spec_FeedValid.m36 rfl rfl HT_.out ?_
         refine puo (i := 36) (N := some 51) spec_FeedValid.m37 rfl rfl HT_.out ?_
         refine puo (i := 37) (N := some 52) spec_FeedValid.m38 rfl rfl HT_.out ?_
         refine puo (i := 38) (N := some 53) spec_FeedValid.m39 rfl rfl HT_.out ?_
         refine puo (i := 39) (N := some 54) spec_FeedValid.m40 rfl rfl HT_.out ?_
         refine puo (i := 40) (N := some 55) spec_FeedValid.m41 rfl rfl HT_.out ?_
         refine puo (i := 41) (N := some 56) spec_FeedValid.m42 rfl rfl HT_.out ?_
         refine puo (i := 42) (N := some 57) spec_FeedValid.m43 rfl rfl HT_.out ?_
         refine puo (i := 43) (N := some 58) spec_FeedValid.m44 rfl rfl HT_.out ?_
         refine puo (i := 44) (N := some 59) spec_FeedValid.m45 rfl rfl HT_.out ?_
         refine puo (i := 45) (N := some 60) spec_FeedValid.m46 rfl rfl HT_.out ?_
         refine puo (i := 46) (N := some 61) spec_FeedValid.m47 rfl rfl HT_.out ?_
         refine pur (i := 47) (N := some 62) spec_FeedValid.m48 rfl rfl HT_.out ?_
         refine done_ (done_of HT_.out (by kernel_rfl)) ?_
         try go_wp2
         go_ret
         exact ⟨fe, bp HB.out⟩
       ·
        replace c12 := Bool.eq_false_iff.mpr c12
        subst c12
        have H1 : (some false) = some r := by rw [if_neg (show ¬ (false = true) by decide)] at H; exact H
        clear H
        have H := H1
        clear H1
        obtain rfl := Option.some.inj H
        have p108 : 0 ≤ (x3_1 : Int) := of_decide_eq_true (by first | (with_reducible assumption) | assumption)
        have q108 : x3_1 < (l0.length : Int) := of_decide_eq_true (by first | (with_reducible assumption) | assumption)
        obtain ⟨ad108, e108, hx108_0, hx108_1, hx108_2, hx108_3⟩ := at_T75 HR0.out x3_1 p108 q108
        cases e108
        replace hx108_0 := hcx HB hx108_0
        replace hx108_1 := hcx HB hx108_1
        replace hx108_2 := hcx HB hx108_2
        replace hx108_3 := hcx HB hx108_3
        replace p108 := eq_true p108
        replace q108 := eq_true q108
        try go_wp2_with (first | ((with_reducible refine gate_dst (N := 4) rfl ?_); refine bxe (N := 4) (cs := #[.int .i64 0, .string (⟨#[]⟩ : ByteArray), .int .i64 0, .int .i64 0]) (t := 75) ?_; intro gb109 hg w47 hbox hb; have BK109 := Aside0.mk (hbox); have GW109 := an2 HB hg; have GE109 := an2 HB hg; replace HB := an0 HB hb; clear hb hbox hg; obtain ⟨hcz48_0, hcz48_1, hcz48_2, hcz48_3, hfz48_0, hfz48_1, hfz48_2, hfz48_3⟩ := cl4 BK109))
        have n0_ : Aside0 (((((w47.setCell ⟨gb109, 0, none⟩ (.int .i64 ((rd_T75 l0 x3_1).f0))).setCell ⟨gb109, 1, none⟩ (.string ((rd_T75 l0 x3_1).f1))).setCell ⟨gb109, 2, none⟩ (.int .i64 ((rd_T75 l0 x3_1).f2))).setCell ⟨gb109, 3, none⟩ (.int .i64 ((rd_T75 l0 x3_1).f3))).heap[gb109]? = some (.cells #[.int .i64 ((rd_T75 l0 x3_1).f0), .string ((rd_T75 l0 x3_1).f1), .int .i64 ((rd_T75 l0 x3_1).f2), .int .i64 ((rd_T75 l0 x3_1).f3)] 75 (0, 0))) := ⟨by (with_reducible repeat (first | refine blk_drewN ?_ _ | refine blk_drew ?_ | refine blk_alloc ?_ _)); refine blk_put (cs := #[.int .i64 ((rd_T75 l0 x3_1).f0), .string ((rd_T75 l0 x3_1).f1), .int .i64 ((rd_T75 l0 x3_1).f2), .int .i64 0]) ?_ 3 _ rfl; (with_reducible repeat (first | refine blk_drewN ?_ _ | refine blk_drew ?_ | refine blk_alloc ?_ _)); refine blk_put (cs := #[.int .i64 ((rd_T75 l0 x3_1).f0), .string ((rd_T75 l0 x3_1).f1), .int .i64 0, .int .i64 0]) ?_ 2 _ rfl; (with_reducible repeat (first | refine blk_drewN ?_ _ | refine blk_drew ?_ | refine blk_alloc ?_ _)); refine blk_put (cs := #[.int .i64 ((rd_T75 l0 x3_1).f0), .string (⟨#[]⟩ : ByteArray), .int .i64 0, .int .i64 0]) ?_ 1 _ rfl; (with_reducible repeat (first | refine blk_drewN ?_ _ | refine blk_drew ?_ | refine blk_alloc ?_ _)); refine blk_put (cs := #[.int .i64 0, .string (⟨#[]⟩ : ByteArray), .int .i64 0, .int .i64 0]) ?_ 0 _ rfl; (with_reducible repeat (first | refine blk_drewN ?_ _ | refine blk_drew ?_ | refine blk_alloc ?_ _)); exact BK109.out⟩
        have n1_ : Aside0 (Below w.heap.size w ((((w47.setCell ⟨gb109, 0, none⟩ (.int .i64 ((rd_T75 l0 x3_1).f0))).setCell ⟨gb109, 1, none⟩ (.string ((rd_T75 l0 x3_1).f1))).setCell ⟨gb109, 2, none⟩ (.int .i64 ((rd_T75 l0 x3_1).f2))).setCell ⟨gb109, 3, none⟩ (.int .i64 ((rd_T75 l0 x3_1).f3)))) := ⟨bp HB.out⟩
        (try clear BK109)
        (try clear HB)
        generalize ((((w47.setCell ⟨gb109, 0, none⟩ (.int .i64 ((rd_T75 l0 x3_1).f0))).setCell ⟨gb109, 1, none⟩ (.string ((rd_T75 l0 x3_1).f1))).setCell ⟨gb109, 2, none⟩ (.int .i64 ((rd_T75 l0 x3_1).f2))).setCell ⟨gb109, 3, none⟩ (.int .i64 ((rd_T75 l0 x3_1).f3))) = w49 at n0_ n1_ ⊢
        have BK109 := n0_
        have HB := n1_
        clear n0_ n1_
        have n0_ := Aside0.mk (blk_drew BK109.out)
        have n1_ := Aside0.mk (below_drew1 HB.out)
        clear BK109
        clear HB
        have BK109 := n0_
        have HB := n1_
        clear n0_ n1_
        refine start_ (n := 48) (S := fun w' => w'.cell? ⟨gb109, 0, none⟩ = some (.int .i64 ((rd_T75 l0 x3_1).f0)) ∧ w'.cell? ⟨gb109, 1, none⟩ = some (.string ((rd_T75 l0 x3_1).f1)) ∧ w'.cell? ⟨gb109, 2, none⟩ = some (.int .i64 ((rd_T75 l0 x3_1).f2)) ∧ w'.cell? ⟨gb109, 3, none⟩ = some (.int .i64 ((rd_T75 l0 x3_1).f3))) (ds := []) spec_FeedValid.m0 (by kernel_rfl) rfl rfl ⟨(blk_cell BK109.out 0).trans rfl, (blk_cell BK109.out 1).trans rfl, (blk_cell BK109.out 2).trans rfl, (blk_cell BK109.out 3).trans rfl⟩ (fun hHeld => ?_); refine with_tabW spec_FeedValid.tab5 spec_FeedValid.bits5 (fun HT_ HW_ => ?_)
        generalize w49.drew = w50 at BK109 HB hHeld ⊢
        refine pur (i := 0) (N := some 15) spec_FeedValid.m1 rfl rfl HT_.out ?_
        refine pur (i := 1) (N := some 16) spec_FeedValid.m2 rfl rfl HT_.out ?_
        refine pur (i := 2) (N := some 17) spec_FeedValid.m3 rfl rfl HT_.out ?_
        refine pur (i := 3) (N := some 18) spec_FeedValid.m4 rfl rfl HT_.out ?_
        refine take_ (i := 4) (N := some 19) (v := ?_) (a' := ?_) spec_FeedValid.m5 rfl rfl (take_ofW HT_.out HW_.out (by kernel_rfl)) (fun _ _ _ h => h) (Or.inl ⟨by rfl, ?_⟩) hHeld ?_ ?_
        rotate_left
        ·
         rintro w' ⟨s0, s1, s2, s3⟩
         go_simp
         with_reducible rfl
        rotate_left; focus (simp only [Act.put, List.setIfInBounds_toArray, List.set_cons_zero, List.set_cons_succ, i64_w, i32_w]; rfl)
        refine one_ (i := 5) (N := some 20) spec_FeedValid.m6 rfl rfl (one_of HT_.out (by kernel_rfl)) (by decide) (fun K hK => ?_)
        refine goes_ Try.func112 (by kernel_rfl) rfl #[.int .i64 ((rd_T75 l0 x3_1).f0), .int .i64 0, .int .i64 23] (by rfl) rfl rfl (by (try simp only [List.map_toArray, List.map_cons, List.map_nil]); first | done | rfl | (simp only [List.length_drop, List.length_take]; rfl)) ?_
        with_reducible refine (spec_l1In.calls ((rd_T75 l0 x3_1).f0) 0 23 true _ A9.out).mono ?_
        rintro e w' ⟨rfl, ⟨nd, rfl⟩⟩
        refine ⟨_, rfl, ?_⟩
        refine hK.out _ _ ⟨(blk_cell BK109.out 0).trans rfl, (blk_cell BK109.out 1).trans rfl, (blk_cell BK109.out 2).trans rfl, (blk_cell BK109.out 3).trans rfl⟩ (fun hHeld => ?_)
        clear hK K
        refine norm_ (a' := ?_) ?_ ?_
        rotate_left
        ·
         show Act.put _ (some 20) _ = _
         simp only [Act.put, List.setIfInBounds_toArray, List.set_cons_zero, List.set_cons_succ, i64_w, i32_w]
         rfl
        refine pur (i := 6) (N := some 21) spec_FeedValid.m7 rfl rfl HT_.out ?_
        refine pur (i := 7) (N := some 22) spec_FeedValid.m8 rfl rfl HT_.out ?_
        refine pur (i := 8) (N := some 23) spec_FeedValid.m9 rfl rfl HT_.out ?_
        refine pur (i := 9) (N := some 24) spec_FeedValid.m10 rfl rfl HT_.out ?_
        refine take_ (i := 10) (N := some 25) (v := ?_) (a' := ?_) spec_FeedValid.m11 rfl rfl (take_ofW HT_.out HW_.out (by kernel_rfl)) (fun _ _ _ h => h) (Or.inl ⟨by rfl, ?_⟩) hHeld ?_ ?_
        rotate_left
        ·
         rintro w' ⟨s0, s1, s2, s3⟩
         go_simp
         with_reducible rfl
        rotate_left; focus (simp only [Act.put, List.setIfInBounds_toArray, List.set_cons_zero, List.set_cons_succ, i64_w, i32_w]; rfl)
        refine one_ (i := 11) (N := some 26) spec_FeedValid.m12 rfl rfl (one_of HT_.out (by kernel_rfl)) (by decide) (fun K hK => ?_)
        refine goes_ Try.func113 (by kernel_rfl) rfl #[.string ((rd_T75 l0 x3_1).f1)] (by rfl) rfl rfl (by (try simp only [List.map_toArray, List.map_cons, List.map_nil]); first | done | rfl | (simp only [List.length_drop, List.length_take]; rfl)) ?_
        with_reducible refine (spec_KeyValid.calls k1 ((rd_T75 l0 x3_1).f1) false _ A11.out).mono ?_
        rintro e w' ⟨rfl, ⟨nd, rfl⟩⟩
        refine ⟨_, rfl, ?_⟩
        refine hK.out _ _ ⟨(blk_cell BK109.out 0).trans rfl, (blk_cell BK109.out 1).trans rfl, (blk_cell BK109.out 2).trans rfl, (blk_cell BK109.out 3).trans rfl⟩ (fun hHeld => ?_)
        clear hK K
        refine norm_ (a' := ?_) ?_ ?_
        rotate_left
        ·
         show Act.put _ (some 26) _ = _
         simp only [Act.put, List.setIfInBounds_toArray, List.set_cons_zero, List.set_cons_succ, i64_w, i32_w]
         rfl
        refine pur (i := 12) (N := some 27) spec_FeedValid.m13 rfl rfl HT_.out ?_
        refine pur (i := 13) (N := some 28) spec_FeedValid.m14 rfl rfl HT_.out ?_
        refine pur (i := 14) (N := some 29) spec_FeedValid.m15 rfl rfl HT_.out ?_
        refine puo (i := 15) (N := some 30) spec_FeedValid.m16 rfl rfl HT_.out ?_
        refine puo (i := 16) (N := some 31) spec_FeedValid.m17 rfl rfl HT_.out ?_
        refine puo (i := 17) (N := some 32) spec_FeedValid.m18 rfl rfl HT_.out ?_
        refine puo (i := 18) (N := some 33) spec_FeedValid.m19 rfl rfl HT_.out ?_
        refine pur (i := 19) (N := some 34) spec_FeedValid.m20 rfl rfl HT_.out ?_
        refine pur (i := 20) (N := some 35) spec_FeedValid.m21 rfl rfl HT_.out ?_
        refine puo (i := 21) (N := some 36) spec_FeedValid.m22 rfl rfl HT_.out ?_
        refine puo (i := 22) (N := some 37) spec_FeedValid.m23 rfl rfl HT_.out ?_
        refine puo (i := 23) (N := some 38) spec_FeedValid.m24 rfl rfl HT_.out ?_
        refine puo (i := 24) (N := some 39) spec_FeedValid.m25 rfl rfl HT_.out ?_
        refine pur (i := 25) (N := some 40) spec_FeedValid.m26 rfl rfl HT_.out ?_
        refine pur (i := 26) (N := some 41) spec_FeedValid.m27 rfl rfl HT_.out ?_
        refine puo (i := 27) (N := some 42) spec_FeedValid.m28 rfl rfl HT_.out ?_
        refine puo (i := 28) (N := some 43) spec_FeedValid.m29 rfl rfl HT_.out ?_
        refine puo (i := 29) (N := some 44) spec_FeedValid.m30 rfl rfl HT_.out ?_
        refine puo (i := 30) (N := some 45) spec_FeedValid.m31 rfl rfl HT_.out ?_
        refine puo (i := 31) (N := some 46) spec_FeedValid.m32 rfl rfl HT_.out ?_
        refine pur (i := 32) (N := some 47) spec_FeedValid.m33 rfl rfl HT_.out ?_
        refine pur (i := 33) (N := some 48) spec_FeedValid.m34 rfl rfl HT_.out ?_
        refine puo (i := 34) (N := some 49) spec_FeedValid.m35 rfl rfl HT_.out ?_
        refine puo (i := 35) (N := some 50) spec_FeedValid.m36 rfl rfl HT_.out ?_
        refine puo (i := 36) (N := some 51) spec_FeedValid.m37 rfl rfl HT_.out ?_
        refine puo (i := 37) (N := some 52) spec_FeedValid.m38 rfl rfl HT_.out ?_
        refine puo (i := 38) (N := some 53) spec_FeedValid.m39 rfl rfl HT_.out ?_
        refine puo (i := 39) (N := some 54) spec_FeedValid.m40 rfl rfl HT_.out ?_
        refine puo (i := 40) (N := some 55) spec_FeedValid.m41 rfl rfl HT_.out ?_
        refine puo (i := 41) (N := some 56) spec_FeedValid.m42 rfl rfl HT_.out ?_
        refine puo (i := 42) (N := some 57) spec_FeedValid.m43 rfl rfl HT_.out ?_
        refine puo (i := 43) (N := some 58) spec_FeedValid.m44 rfl rfl HT_.out ?_
        refine puo (i := 44) (N := some 59) spec_FeedValid.m45 rfl rfl HT_.out ?_
        refine puo (i := 45) (N := some 60) spec_FeedValid.m46 rfl rfl HT_.out ?_
        refine puo (i := 46) (N := some 61) spec_FeedValid.m47 rfl rfl HT_.out ?_
        refine pur (i := 47) (N := some 62) spec_FeedValid.m48 rfl rfl HT_.out ?_
        refine done_ (done_of HT_.out (by kernel_rfl)) ?_
        try go_wp2
        go_ret
        exact ⟨fe, bp HB.out⟩
      ·
       replace c10 := Bool.eq_false_iff.mpr c10
       subst c10
       have H1 : (some false) = some r := by rw [if_neg (show ¬ (false = true) by decide)] at H; exact H
       clear H
       have H := H1
       clear H1
       obtain rfl := Option.some.inj H
       have p108 : 0 ≤ (x3_1 : Int) := of_decide_eq_true (by first | (with_reducible assumption) | assumption)
       have q108 : x3_1 < (l0.length : Int) := of_decide_eq_true (by first | (with_reducible assumption) | assumption)
       obtain ⟨ad108, e108, hx108_0, hx108_1, hx108_2, hx108_3⟩ := at_T75 HR0.out x3_1 p108 q108
       cases e108
       replace hx108_0 := hcx HB hx108_0
       replace hx108_1 := hcx HB hx108_1
       replace hx108_2 := hcx HB hx108_2
       replace hx108_3 := hcx HB hx108_3
       replace p108 := eq_true p108
       replace q108 := eq_true q108
       try go_wp2_with (first | ((with_reducible refine gate_dst (N := 4) rfl ?_); refine bxe (N := 4) (cs := #[.int .i64 0, .string (⟨#[]⟩ : ByteArray), .int .i64 0, .int .i64 0]) (t := 75) ?_; intro gb109 hg w51 hbox hb; have BK109 := Aside0.mk (hbox); have GW109 := an2 HB hg; have GE109 := an2 HB hg; replace HB := an0 HB hb; clear hb hbox hg; obtain ⟨hcz52_0, hcz52_1, hcz52_2, hcz52_3, hfz52_0, hfz52_1, hfz52_2, hfz52_3⟩ := cl4 BK109))
       have n0_ : Aside0 (((((w51.setCell ⟨gb109, 0, none⟩ (.int .i64 ((rd_T75 l0 x3_1).f0))).setCell ⟨gb109, 1, none⟩ (.string ((rd_T75 l0 x3_1).f1))).setCell ⟨gb109, 2, none⟩ (.int .i64 ((rd_T75 l0 x3_1).f2))).setCell ⟨gb109, 3, none⟩ (.int .i64 ((rd_T75 l0 x3_1).f3))).heap[gb109]? = some (.cells #[.int .i64 ((rd_T75 l0 x3_1).f0), .string ((rd_T75 l0 x3_1).f1), .int .i64 ((rd_T75 l0 x3_1).f2), .int .i64 ((rd_T75 l0 x3_1).f3)] 75 (0, 0))) := ⟨by (with_reducible repeat (first | refine blk_drewN ?_ _ | refine blk_drew ?_ | refine blk_alloc ?_ _)); refine blk_put (cs := #[.int .i64 ((rd_T75 l0 x3_1).f0), .string ((rd_T75 l0 x3_1).f1), .int .i64 ((rd_T75 l0 x3_1).f2), .int .i64 0]) ?_ 3 _ rfl; (with_reducible repeat (first | refine blk_drewN ?_ _ | refine blk_drew ?_ | refine blk_alloc ?_ _)); refine blk_put (cs := #[.int .i64 ((rd_T75 l0 x3_1).f0), .string ((rd_T75 l0 x3_1).f1), .int .i64 0, .int .i64 0]) ?_ 2 _ rfl; (with_reducible repeat (first | refine blk_drewN ?_ _ | refine blk_drew ?_ | refine blk_alloc ?_ _)); refine blk_put (cs := #[.int .i64 ((rd_T75 l0 x3_1).f0), .string (⟨#[]⟩ : ByteArray), .int .i64 0, .int .i64 0]) ?_ 1 _ rfl; (with_reducible repeat (first | refine blk_drewN ?_ _ | refine blk_drew ?_ | refine blk_alloc ?_ _)); refine blk_put (cs := #[.int .i64 0, .string (⟨#[]⟩ : ByteArray), .int .i64 0, .int .i64 0]) ?_ 0 _ rfl; (with_reducible repeat (first | refine blk_drewN ?_ _ | refine blk_drew ?_ | refine blk_alloc ?_ _)); exact BK109.out⟩
       have n1_ : Aside0 (Below w.heap.size w ((((w51.setCell ⟨gb109, 0, none⟩ (.int .i64 ((rd_T75 l0 x3_1).f0))).setCell ⟨gb109, 1, none⟩ (.string ((rd_T75 l0 x3_1).f1))).setCell ⟨gb109, 2, none⟩ (.int .i64 ((rd_T75 l0 x3_1).f2))).setCell ⟨gb109, 3, none⟩ (.int .i64 ((rd_T75 l0 x3_1).f3)))) := ⟨bp HB.out⟩
       (try clear BK109)
       (try clear HB)
       generalize ((((w51.setCell ⟨gb109, 0, none⟩ (.int .i64 ((rd_T75 l0 x3_1).f0))).setCell ⟨gb109, 1, none⟩ (.string ((rd_T75 l0 x3_1).f1))).setCell ⟨gb109, 2, none⟩ (.int .i64 ((rd_T75 l0 x3_1).f2))).setCell ⟨gb109, 3, none⟩ (.int .i64 ((rd_T75 l0 x3_1).f3))) = w53 at n0_ n1_ ⊢
       have BK109 := n0_
       have HB := n1_
       clear n0_ n1_
       have n0_ := Aside0.mk (blk_drew BK109.out)
       have n1_ := Aside0.mk (below_drew1 HB.out)
       clear BK109
       clear HB
       have BK109 := n0_
       have HB := n1_
       clear n0_ n1_
       refine start_ (n := 48) (S := fun w' => w'.cell? ⟨gb109, 0, none⟩ = some (.int .i64 ((rd_T75 l0 x3_1).f0)) ∧ w'.cell? ⟨gb109, 1, none⟩ = some (.string ((rd_T75 l0 x3_1).f1)) ∧ w'.cell? ⟨gb109, 2, none⟩ = some (.int .i64 ((rd_T75 l0 x3_1).f2)) ∧ w'.cell? ⟨gb109, 3, none⟩ = some (.int .i64 ((rd_T75 l0 x3_1).f3))) (ds := []) spec_FeedValid.m0 (by kernel_rfl) rfl rfl ⟨(blk_cell BK109.out 0).trans rfl, (blk_cell BK109.out 1).trans rfl, (blk_cell BK109.out 2).trans rfl, (blk_cell BK109.out 3).trans rfl⟩ (fun hHeld => ?_); refine with_tabW spec_FeedValid.tab5 spec_FeedValid.bits5 (fun HT_ HW_ => ?_)
       generalize w53.drew = w54 at BK109 HB hHeld ⊢
       refine pur (i := 0) (N := some 15) spec_FeedValid.m1 rfl rfl HT_.out ?_
       refine pur (i := 1) (N := some 16) spec_FeedValid.m2 rfl rfl HT_.out ?_
       refine pur (i := 2) (N := some 17) spec_FeedValid.m3 rfl rfl HT_.out ?_
       refine pur (i := 3) (N := some 18) spec_FeedValid.m4 rfl rfl HT_.out ?_
       refine take_ (i := 4) (N := some 19) (v := ?_) (a' := ?_) spec_FeedValid.m5 rfl rfl (take_ofW HT_.out HW_.out (by kernel_rfl)) (fun _ _ _ h => h) (Or.inl ⟨by rfl, ?_⟩) hHeld ?_ ?_
       rotate_left
       ·
        rintro w' ⟨s0, s1, s2, s3⟩
        go_simp
        with_reducible rfl
       rotate_left; focus (simp only [Act.put, List.setIfInBounds_toArray, List.set_cons_zero, List.set_cons_succ, i64_w, i32_w]; rfl)
       refine one_ (i := 5) (N := some 20) spec_FeedValid.m6 rfl rfl (one_of HT_.out (by kernel_rfl)) (by decide) (fun K hK => ?_)
       refine goes_ Try.func112 (by kernel_rfl) rfl #[.int .i64 ((rd_T75 l0 x3_1).f0), .int .i64 0, .int .i64 23] (by rfl) rfl rfl (by (try simp only [List.map_toArray, List.map_cons, List.map_nil]); first | done | rfl | (simp only [List.length_drop, List.length_take]; rfl)) ?_
       with_reducible refine (spec_l1In.calls ((rd_T75 l0 x3_1).f0) 0 23 false _ A9.out).mono ?_
       rintro e w' ⟨rfl, ⟨nd, rfl⟩⟩
       refine ⟨_, rfl, ?_⟩
       refine hK.out _ _ ⟨(blk_cell BK109.out 0).trans rfl, (blk_cell BK109.out 1).trans rfl, (blk_cell BK109.out 2).trans rfl, (blk_cell BK109.out 3).trans rfl⟩ (fun hHeld => ?_)
       clear hK K
       refine norm_ (a' := ?_) ?_ ?_
       rotate_left
       ·
        show Act.put _ (some 20) _ = _
        simp only [Act.put, List.setIfInBounds_toArray, List.set_cons_zero, List.set_cons_succ, i64_w, i32_w]
        rfl
       refine pur (i := 6) (N := some 21) spec_FeedValid.m7 rfl rfl HT_.out ?_
       refine pur (i := 7) (N := some 22) spec_FeedValid.m8 rfl rfl HT_.out ?_
       refine pur (i := 8) (N := some 23) spec_FeedValid.m9 rfl rfl HT_.out ?_
       refine puo (i := 9) (N := some 24) spec_FeedValid.m10 rfl rfl HT_.out ?_
       refine puo (i := 10) (N := some 25) spec_FeedValid.m11 rfl rfl HT_.out ?_
       refine puo (i := 11) (N := some 26) spec_FeedValid.m12 rfl rfl HT_.out ?_
       refine puo (i := 12) (N := some 27) spec_FeedValid.m13 rfl rfl HT_.out ?_
       refine pur (i := 13) (N := some 28) spec_FeedValid.m14 rfl rfl HT_.out ?_
       refine pur (i := 14) (N := some 29) spec_FeedValid.m15 rfl rfl HT_.out ?_
       refine puo (i := 15) (N := some 30) spec_FeedValid.m16 rfl rfl HT_.out ?_
       refine puo (i := 16) (N := some 31) spec_FeedValid.m17 rfl rfl HT_.out ?_
       refine puo (i := 17) (N := some 32) spec_FeedValid.m18 rfl rfl HT_.out ?_
       refine puo (i := 18) (N := some 33) spec_FeedValid.m19 rfl rfl HT_.out ?_
       refine pur (i := 19) (N := some 34) spec_FeedValid.m20 rfl rfl HT_.out ?_
       refine pur (i := 20) (N := some 35) spec_FeedValid.m21 rfl rfl HT_.out ?_
       refine puo (i := 21) (N := some 36) spec_FeedValid.m22 rfl rfl HT_.out ?_
       refine puo (i := 22) (N := some 37) spec_FeedValid.m23 rfl rfl HT_.out ?_
       refine puo (i := 23) (N := some 38) spec_FeedValid.m24 rfl rfl HT_.out ?_
       refine puo (i := 24) (N := some 39) spec_FeedValid.m25 rfl rfl HT_.out ?_
       refine pur (i := 25) (N := some 40) spec_FeedValid.m26 rfl rfl HT_.out ?_
       refine pur (i := 26) (N := some 41) spec_FeedValid.m27 rfl rfl HT_.out ?_
       refine puo (i := 27) (N := some 42) spec_FeedValid.m28 rfl rfl HT_.out ?_
       refine puo (i := 28) (N := some 43) spec_FeedValid.m29 rfl rfl HT_.out ?_
       refine puo (i := 29) (N := some 44) spec_FeedValid.m30 rfl rfl HT_.out ?_
       refine puo (i := 30) (N := some 45) spec_FeedValid.m31 rfl rfl HT_.out ?_
       refine puo (i := 31) (N := some 46) spec_FeedValid.m32 rfl rfl HT_.out ?_
       refine pur (i := 32) (N := some 47) spec_FeedValid.m33 rfl rfl HT_.out ?_
       refine pur (i := 33) (N := some 48) spec_FeedValid.m34 rfl rfl HT_.out ?_
       refine puo (i := 34) (N := some 49) spec_FeedValid.m35 rfl rfl HT_.out ?_
       refine puo (i := 35) (N := some 50) spec_FeedValid.m36 rfl rfl HT_.out ?_
       refine puo (i := 36) (N := some 51) spec_FeedValid.m37 rfl rfl HT_.out ?_
       refine puo (i := 37) (N := some 52) spec_FeedValid.m38 rfl rfl HT_.out ?_
       refine puo (i := 38) (N := some 53) spec_FeedValid.m39 rfl rfl HT_.out ?_
       refine puo (i := 39) (N := some 54) spec_FeedValid.m40 rfl rfl HT_.out ?_
       refine puo (i := 40) (N := some 55) spec_FeedValid.m41 rfl rfl HT_.out ?_
       refine puo (i := 41) (N := some 56) spec_FeedValid.m42 rfl rfl HT_.out ?_
       refine puo (i := 42) (N := some 57) spec_FeedValid.m43 rfl rfl HT_.out ?_
       refine puo (i := 43) (N := some 58) spec_FeedValid.m44 rfl rfl HT_.out ?_
       refine puo (i := 44) (N := some 59) spec_FeedValid.m45 rfl rfl HT_.out ?_
       refine puo (i := 45) (N := some 60) spec_FeedValid.m46 rfl rfl HT_.out ?_
       refine puo (i := 46) (N := some 61) spec_FeedValid.m47 rfl rfl HT_.out ?_
       refine pur (i := 47) (N := some 62) spec_FeedValid.m48 rfl rfl HT_.out ?_
       refine done_ (done_of HT_.out (by kernel_rfl)) ?_
       try go_wp2
       go_ret
       exact ⟨fe, bp HB.out⟩
    ·
     rw [if_neg c3] at H
     exact absurd H (by simp)
   ·
    rw [if_neg c2] at H
    have c2b0 : decide (x3_1 < (l0.length : Int)) = false := decide_eq_false c2
    clear c2
    obtain rfl := Option.some.inj H
    go_wp2
    go_ret
    exact ⟨fe, bp HB.out⟩

end Go.Proofs.Ytfeeifefmenlmaa.PFnExactApplyFeed
