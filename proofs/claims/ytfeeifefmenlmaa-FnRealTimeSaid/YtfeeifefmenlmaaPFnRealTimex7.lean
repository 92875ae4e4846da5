-- Written by a program of this session, in the manner of the kit's print (wip/pp.py): functions and their contracts.
import Derived.Test.YtfeeifefmenlmaaPFnRealTimex0
import Derived.Test.YtfeeifefmenlmaaPFnRealTimex1
import Derived.Test.YtfeeifefmenlmaaPFnRealTimex2
import Derived.Test.YtfeeifefmenlmaaPFnRealTimex5
import Derived.Test.YtfeeifefmenlmaaPFnRealTimex6
namespace Go.Proofs.Ytfeeifefmenlmaa.PFnRealTime
open Go.RowKit Go.Proofs.YtfeeifefmenlmaaW.PrintWords Go.Proofs.YtfeeifefmenlmaaW.PrintLast Go.Proofs.YtfeeifefmenlmaaW.PrintMore
attribute [local go_sem] binOp_leq_str binOp_gtr_str binOp_geq_str max2_int min2_int max_two min_two max_three min_three max_four min_four   -- for this text's walks alone
set_option linter.unusedVariables false
set_option linter.unusedSimpArgs false

/-! ### spec_l20Results: function 77 -/
mutual
def spec_l20Results.l0 : Nat → Int → List (S42) → List (S29) → Int → Int → List Int → Int → Option ((List (S42)) × Int)
  | 0, _, _, _, _, _, _, _ => none
  | k + 1, x1, x5, x6, x7, x8, x1000, x1001 => if x8 > 0 then ((spec_l20Cmd.f k x1000 x1001 0).bind fun bt328 => ((some (([(⟨#[98]⟩ : ByteArray), (⟨#[99]⟩ : ByteArray)] : List ByteArray) : List ByteArray)).bind fun y334 => ((spec_l20Rd_pick.f k x1000 bt328.2.2.2.2 4).bind fun bt337 => (if 0 ≤ (wrap64 (Int.tdiv bt337.1 3)) then (if (wrap64 (Int.tdiv bt337.1 3)) < (y334.length : Int) then ((spec_ApplyCommand.f k x6 bt328.1 (rdOf ByteArray.empty y334 (wrap64 (Int.tdiv bt337.1 3))) bt328.2.2.1 bt328.2.2.2.1).bind fun bt340 => ((spec_l20Rd_pick.f k x1000 bt337.2 4).bind fun bt344 => ((spec_l20Rd_pick.f k x1000 bt344.2 3).bind fun bt346 => ((spec_l20Rd_pick.f k x1000 bt346.2 4).bind fun bt348 => (if x5.length < 1759218604441 then (spec_l20Results.l0 k x1 (x5 ++ [(⟨wrap64 (1 + bt346.1), x8, (⟨bt328.1, rdOf ByteArray.empty y334 (wrap64 (Int.tdiv bt337.1 3)), bt328.2.2.1, bt328.2.2.2.1⟩ : S40), bt340.2, mx 0 (wrap64 (x7 - bt344.1)), wrap64 (x7 + bt348.1)⟩ : S42)]) bt340.1 (wrap64 (x7 + 1)) (wrap64 (x8 - 1)) x1000 bt348.2) else (none)))))) else (none)) else (none))))) else (if (x5.length : Int) > 1 then ((spec_l20Rd_pick.f k x1000 x1001 2).bind fun bt353 => (spec_l20Results.j1 k x1 x5 (bt353.1 == 0) x1000 bt353.2)) else (spec_l20Results.j1 k x1 x5 false x1000 x1001))
def spec_l20Results.j1 : Nat → Int → List (S42) → Bool → List Int → Int → Option ((List (S42)) × Int)
  | 0, _, _, _, _, _ => none
  | k + 1, x1, x5, x68, x1000, x1001 => if x68 = true then ((spec_l20Rd_pick.f k x1000 x1001 (x5.length : Int)).bind fun bt355 => (if 0 < (x5.length : Int) then (if 0 ≤ bt355.1 then (if bt355.1 < (x5.length : Int) then (spec_l20Results.j2 k x1 ((x5.set (0 : Int).toNat (⟨(rd_T42 x5 bt355.1).f0, (rd_T42 x5 bt355.1).f1, (⟨(rd_T42 x5 bt355.1).f2.f0, (rd_T42 x5 bt355.1).f2.f1, (rd_T42 x5 bt355.1).f2.f2, (rd_T42 x5 bt355.1).f2.f3⟩ : S40), (rd_T42 x5 bt355.1).f3, (rd_T42 x5 bt355.1).f4, (rd_T42 x5 bt355.1).f5⟩ : S42)).set (bt355.1 : Int).toNat (⟨(rd_T42 x5 0).f0, (rd_T42 x5 0).f1, (⟨(rd_T42 x5 0).f2.f0, (rd_T42 x5 0).f2.f1, (rd_T42 x5 0).f2.f2, (rd_T42 x5 0).f2.f3⟩ : S40), (rd_T42 x5 0).f3, (rd_T42 x5 0).f4, (rd_T42 x5 0).f5⟩ : S42)) x1000 bt355.2) else (none)) else (none)) else (none))) else (spec_l20Results.j2 k x1 x5 x1000 x1001)
def spec_l20Results.j2 : Nat → Int → List (S42) → List Int → Int → Option ((List (S42)) × Int)
  | 0, _, _, _, _ => none
  | k + 1, x1, x5, x1000, x1001 => if (x5.length : Int) > 0 then ((spec_l20Rd_pick.f k x1000 x1001 4).bind fun bt362 => (spec_l20Results.j3 k x1 x5 (bt362.1 == 0) x1000 bt362.2)) else (spec_l20Results.j3 k x1 x5 false x1000 x1001)
def spec_l20Results.j3 : Nat → Int → List (S42) → Bool → List Int → Int → Option ((List (S42)) × Int)
  | 0, _, _, _, _, _ => none
  | k + 1, x1, x5, x93, x1000, x1001 => if x93 = true then ((spec_l20Rd_pick.f k x1000 x1001 (x5.length : Int)).bind fun bt364 => ((spec_l20Reply.f k x1000 bt364.2 0).bind fun bt366 => (if 0 ≤ bt364.1 then (if bt364.1 < (x5.length : Int) then (spec_l20Results.j4 k x1 (x5.set (bt364.1 : Int).toNat (⟨(rd_T42 x5 bt364.1).f0, (rd_T42 x5 bt364.1).f1, (⟨(rd_T42 x5 bt364.1).f2.f0, (rd_T42 x5 bt364.1).f2.f1, (rd_T42 x5 bt364.1).f2.f2, (rd_T42 x5 bt364.1).f2.f3⟩ : S40), bt366.1, (rd_T42 x5 bt364.1).f4, (rd_T42 x5 bt364.1).f5⟩ : S42)) x1000 bt366.2) else (none)) else (none)))) else (spec_l20Results.j4 k x1 x5 x1000 x1001)
def spec_l20Results.j4 : Nat → Int → List (S42) → List Int → Int → Option ((List (S42)) × Int)
  | 0, _, _, _, _ => none
  | k + 1, x1, x5, x1000, x1001 => (spec_l20Rd_odd.f k x1000 x1001 x1).bind fun bt369 => (if bt369.1 = true then ((spec_l20Rd_pick.f k x1000 bt369.2 4).bind fun bt371 => ((spec_l20Any.f k x1000 bt371.2 0).bind fun bt373 => ((spec_l20Rd_pick.f k x1000 bt373.2.2.2.2 2).bind fun bt378 => (if x5.length < 1759218604441 then (some ((x5 ++ [(⟨bt371.1, 1, (⟨bt373.1, bt373.2.1, bt373.2.2.1, bt373.2.2.2.1⟩ : S40), 0, bt378.1, 0⟩ : S42)]), bt378.2)) else (none))))) else (some (x5, bt369.2)))
end
def spec_l20Results.f (k : Nat) (s0_0 : List Int) (s0_1 : Int) (a1 : Int) : Option ((List (S42)) × Int) := (spec_l20Rd_pick.f k s0_0 s0_1 6).bind fun bt326 => (spec_l20Results.l0 k a1 (([] : List (S42))) (([] : List (S29))) 1 bt326.1 s0_0 bt326.2)
theorem spec_l20Results.mono_l : ∀ k, (∀ y0 y1 y2 y3 y4 y5 y6, LeO (spec_l20Results.l0 k y0 y1 y2 y3 y4 y5 y6) (spec_l20Results.l0 (k + 1) y0 y1 y2 y3 y4 y5 y6)) ∧ (∀ y0 y1 y2 y3 y4, LeO (spec_l20Results.j1 k y0 y1 y2 y3 y4) (spec_l20Results.j1 (k + 1) y0 y1 y2 y3 y4)) ∧ (∀ y0 y1 y2 y3, LeO (spec_l20Results.j2 k y0 y1 y2 y3) (spec_l20Results.j2 (k + 1) y0 y1 y2 y3)) ∧ (∀ y0 y1 y2 y3 y4, LeO (spec_l20Results.j3 k y0 y1 y2 y3 y4) (spec_l20Results.j3 (k + 1) y0 y1 y2 y3 y4)) ∧ (∀ y0 y1 y2 y3, LeO (spec_l20Results.j4 k y0 y1 y2 y3) (spec_l20Results.j4 (k + 1) y0 y1 y2 y3))
  | 0 => ⟨fun _ _ _ _ _ _ _ r h => by simp [spec_l20Results.l0] at h, fun _ _ _ _ _ r h => by simp [spec_l20Results.j1] at h, fun _ _ _ _ r h => by simp [spec_l20Results.j2] at h, fun _ _ _ _ _ r h => by simp [spec_l20Results.j3] at h, fun _ _ _ _ r h => by simp [spec_l20Results.j4] at h⟩
  | k + 1 => by
    obtain ⟨ih0, ih1, ih2, ih3, ih4⟩ := spec_l20Results.mono_l k
    refine ⟨?_, ?_, ?_, ?_, ?_⟩
    · intro y0 y1 y2 y3 y4 y5 y6
      unfold spec_l20Results.l0
      repeat' first
      | (with_reducible exact ih0 _ _ _ _ _ _ _)
      | (with_reducible exact ih1 _ _ _ _ _)
      | (with_reducible exact ih2 _ _ _ _)
      | (with_reducible exact ih3 _ _ _ _ _)
      | (with_reducible exact ih4 _ _ _ _)
      | (with_reducible exact spec_ApplyCommand.mono _ _ _ _ _ _)
      | (with_reducible exact spec_l20Any.mono _ _ _ _)
      | (with_reducible exact spec_l20Cmd.mono _ _ _ _)
      | (with_reducible exact spec_l20Rd_odd.mono _ _ _ _)
      | (with_reducible exact spec_l20Rd_pick.mono _ _ _ _)
      | (with_reducible exact spec_l20Reply.mono _ _ _ _)
      | (with_reducible exact LeO.refl _)
      | (with_reducible exact LeO.none _)
      | (with_reducible refine LeO.ite ?_ ?_)
      | (with_reducible refine LeO.bind ?_ (fun _ => ?_))
      | exact ih0 _ _ _ _ _ _ _
      | exact ih1 _ _ _ _ _
      | exact ih2 _ _ _ _
      | exact ih3 _ _ _ _ _
      | exact ih4 _ _ _ _
      | exact spec_ApplyCommand.mono _ _ _ _ _ _
      | exact spec_l20Any.mono _ _ _ _
      | exact spec_l20Cmd.mono _ _ _ _
      | exact spec_l20Rd_odd.mono _ _ _ _
      | exact spec_l20Rd_pick.mono _ _ _ _
      | exact spec_l20Reply.mono _ _ _ _
      | exact LeO.none _
      | refine LeO.ite ?_ ?_
      | refine LeO.bind ?_ (fun _ => ?_)
    · intro y0 y1 y2 y3 y4
      unfold spec_l20Results.j1
      repeat' first
      | (with_reducible exact ih0 _ _ _ _ _ _ _)
      | (with_reducible exact ih1 _ _ _ _ _)
      | (with_reducible exact ih2 _ _ _ _)
      | (with_reducible exact ih3 _ _ _ _ _)
      | (with_reducible exact ih4 _ _ _ _)
      | (with_reducible exact spec_ApplyCommand.mono _ _ _ _ _ _)
      | (with_reducible exact spec_l20Any.mono _ _ _ _)
      | (with_reducible exact spec_l20Cmd.mono _ _ _ _)
      | (with_reducible exact spec_l20Rd_odd.mono _ _ _ _)
      | (with_reducible exact spec_l20Rd_pick.mono _ _ _ _)
      | (with_reducible exact spec_l20Reply.mono _ _ _ _)
      | (with_reducible exact LeO.refl _)
      | (with_reducible exact LeO.none _)
      | (with_reducible refine LeO.ite ?_ ?_)
      | (with_reducible refine LeO.bind ?_ (fun _ => ?_))
      | exact ih0 _ _ _ _ _ _ _
      | exact ih1 _ _ _ _ _
      | exact ih2 _ _ _ _
      | exact ih3 _ _ _ _ _
      | exact ih4 _ _ _ _
      | exact spec_ApplyCommand.mono _ _ _ _ _ _
      | exact spec_l20Any.mono _ _ _ _
      | exact spec_l20Cmd.mono _ _ _ _
      | exact spec_l20Rd_odd.mono _ _ _ _
      | exact spec_l20Rd_pick.mono _ _ _ _
      | exact spec_l20Reply.mono _ _ _ _
      | exact LeO.none _
      | refine LeO.ite ?_ ?_
      | refine LeO.bind ?_ (fun _ => ?_)
    · intro y0 y1 y2 y3
      unfold spec_l20Results.j2
      repeat' first
      | (with_reducible exact ih0 _ _ _ _ _ _ _)
      | (with_reducible exact ih1 _ _ _ _ _)
      | (with_reducible exact ih2 _ _ _ _)
      | (with_reducible exact ih3 _ _ _ _ _)
      | (with_reducible exact ih4 _ _ _ _)
      | (with_reducible exact spec_ApplyCommand.mono _ _ _ _ _ _)
      | (with_reducible exact spec_l20Any.mono _ _ _ _)
      | (with_reducible exact spec_l20Cmd.mono _ _ _ _)
      | (with_reducible exact spec_l20Rd_odd.mono _ _ _ _)
      | (with_reducible exact spec_l20Rd_pick.mono _ _ _ _)
      | (with_reducible exact spec_l20Reply.mono _ _ _ _)
      | (with_reducible exact LeO.refl _)
      | (with_reducible exact LeO.none _)
      | (with_reducible refine LeO.ite ?_ ?_)
      | (with_reducible refine LeO.bind ?_ (fun _ => ?_))
      | exact ih0 _ _ _ _ _ _ _
      | exact ih1 _ _ _ _ _
      | exact ih2 _ _ _ _
      | exact ih3 _ _ _ _ _
      | exact ih4 _ _ _ _
      | exact spec_ApplyCommand.mono _ _ _ _ _ _
      | exact spec_l20Any.mono _ _ _ _
      | exact spec_l20Cmd.mono _ _ _ _
      | exact spec_l20Rd_odd.mono _ _ _ _
      | exact spec_l20Rd_pick.mono _ _ _ _
      | exact spec_l20Reply.mono _ _ _ _
      | exact LeO.none _
      | refine LeO.ite ?_ ?_
      | refine LeO.bind ?_ (fun _ => ?_)
    · intro y0 y1 y2 y3 y4
      unfold spec_l20Results.j3
      repeat' first
      | (with_reducible exact ih0 _ _ _ _ _ _ _)
      | (with_reducible exact ih1 _ _ _ _ _)
      | (with_reducible exact ih2 _ _ _ _)
      | (with_reducible exact ih3 _ _ _ _ _)
      | (with_reducible exact ih4 _ _ _ _)
      | (with_reducible exact spec_ApplyCommand.mono _ _ _ _ _ _)
      | (with_reducible exact spec_l20Any.mono _ _ _ _)
      | (with_reducible exact spec_l20Cmd.mono _ _ _ _)
      | (with_reducible exact spec_l20Rd_odd.mono _ _ _ _)
      | (with_reducible exact spec_l20Rd_pick.mono _ _ _ _)
      | (with_reducible exact spec_l20Reply.mono _ _ _ _)
      | (with_reducible exact LeO.refl _)
      | (with_reducible exact LeO.none _)
      | (with_reducible refine LeO.ite ?_ ?_)
      | (with_reducible refine LeO.bind ?_ (fun _ => ?_))
      | exact ih0 _ _ _ _ _ _ _
      | exact ih1 _ _ _ _ _
      | exact ih2 _ _ _ _
      | exact ih3 _ _ _ _ _
      | exact ih4 _ _ _ _
      | exact spec_ApplyCommand.mono _ _ _ _ _ _
      | exact spec_l20Any.mono _ _ _ _
      | exact spec_l20Cmd.mono _ _ _ _
      | exact spec_l20Rd_odd.mono _ _ _ _
      | exact spec_l20Rd_pick.mono _ _ _ _
      | exact spec_l20Reply.mono _ _ _ _
      | exact LeO.none _
      | refine LeO.ite ?_ ?_
      | refine LeO.bind ?_ (fun _ => ?_)
    · intro y0 y1 y2 y3
      unfold spec_l20Results.j4
      repeat' first
      | (with_reducible exact ih0 _ _ _ _ _ _ _)
      | (with_reducible exact ih1 _ _ _ _ _)
      | (with_reducible exact ih2 _ _ _ _)
      | (with_reducible exact ih3 _ _ _ _ _)
      | (with_reducible exact ih4 _ _ _ _)
      | (with_reducible exact spec_ApplyCommand.mono _ _ _ _ _ _)
      | (with_reducible exact spec_l20Any.mono _ _ _ _)
      | (with_reducible exact spec_l20Cmd.mono _ _ _ _)
      | (with_reducible exact spec_l20Rd_odd.mono _ _ _ _)
      | (with_reducible exact spec_l20Rd_pick.mono _ _ _ _)
      | (with_reducible exact spec_l20Reply.mono _ _ _ _)
      | (with_reducible exact LeO.refl _)
      | (with_reducible exact LeO.none _)
      | (with_reducible refine LeO.ite ?_ ?_)
      | (with_reducible refine LeO.bind ?_ (fun _ => ?_))
      | exact ih0 _ _ _ _ _ _ _
      | exact ih1 _ _ _ _ _
      | exact ih2 _ _ _ _
      | exact ih3 _ _ _ _ _
      | exact ih4 _ _ _ _
      | exact spec_ApplyCommand.mono _ _ _ _ _ _
      | exact spec_l20Any.mono _ _ _ _
      | exact spec_l20Cmd.mono _ _ _ _
      | exact spec_l20Rd_odd.mono _ _ _ _
      | exact spec_l20Rd_pick.mono _ _ _ _
      | exact spec_l20Reply.mono _ _ _ _
      | exact LeO.none _
      | refine LeO.ite ?_ ?_
      | refine LeO.bind ?_ (fun _ => ?_)
theorem spec_l20Results.mono : ∀ a0 a1 a2 k, LeO (spec_l20Results.f k a0 a1 a2) (spec_l20Results.f (k + 1) a0 a1 a2) := by
  intro a0 a1 a2 k
  obtain ⟨ih0, ih1, ih2, ih3, ih4⟩ := spec_l20Results.mono_l k
  unfold spec_l20Results.f
  repeat' first
      | (with_reducible exact ih0 _ _ _ _ _ _ _)
      | (with_reducible exact ih1 _ _ _ _ _)
      | (with_reducible exact ih2 _ _ _ _)
      | (with_reducible exact ih3 _ _ _ _ _)
      | (with_reducible exact ih4 _ _ _ _)
      | (with_reducible exact spec_ApplyCommand.mono _ _ _ _ _ _)
      | (with_reducible exact spec_l20Any.mono _ _ _ _)
      | (with_reducible exact spec_l20Cmd.mono _ _ _ _)
      | (with_reducible exact spec_l20Rd_odd.mono _ _ _ _)
      | (with_reducible exact spec_l20Rd_pick.mono _ _ _ _)
      | (with_reducible exact spec_l20Reply.mono _ _ _ _)
      | (with_reducible exact LeO.refl _)
      | (with_reducible exact LeO.none _)
      | (with_reducible refine LeO.ite ?_ ?_)
      | (with_reducible refine LeO.bind ?_ (fun _ => ?_))
      | exact ih0 _ _ _ _ _ _ _
      | exact ih1 _ _ _ _ _
      | exact ih2 _ _ _ _
      | exact ih3 _ _ _ _ _
      | exact ih4 _ _ _ _
      | exact spec_ApplyCommand.mono _ _ _ _ _ _
      | exact spec_l20Any.mono _ _ _ _
      | exact spec_l20Cmd.mono _ _ _ _
      | exact spec_l20Rd_odd.mono _ _ _ _
      | exact spec_l20Rd_pick.mono _ _ _ _
      | exact spec_l20Reply.mono _ _ _ _
      | exact LeO.none _
      | refine LeO.ite ?_ ?_
      | refine LeO.bind ?_ (fun _ => ?_)
def spec_l20Results.T12 : Bool × List (List Nat × List Nat) := (true, [([], []), ([], []), ([1], [1]), ([2], [2]), ([], []), ([], []), ([], []), ([], []), ([], []), ([], []), ([9, 2], [9]), ([8, 10], [8, 10]), ([3, 4, 5, 6, 7, 11], [3, 4, 5, 6, 7, 11]), ([12], [12]), ([0, 13, 10], [0, 13]), ([14, 14, 0, 1, 2, 3, 4, 5, 6, 7, 8, 9, 10, 11, 12, 13, 14], [0, 14])])
def spec_l20Results.B12 : List Nat := [0, 0, 2, 6, 0, 0, 0, 0, 0, 0, 518, 1798, 4094, 8190, 16383, 32767]
theorem spec_l20Results.tab12 : rtab .any (opsOf Try.f77 12) = spec_l20Results.T12 := by kernel_rfl
theorem spec_l20Results.bits12 : waitsOk spec_l20Results.T12.2 spec_l20Results.B12 = true := by kernel_rfl
theorem spec_l20Results.s0 {P0 Q : Prop} (B0 : P0) (h : P0 → Q := by (intro b0_; repeat (first | (with_reducible first | exact b0_ | apply KeepBut.set_ | apply keep_drewN | apply keep_drew | apply keep_alloc) | exact b0_))) : Q := h B0
theorem spec_l20Results.s1 {P0 Q : Prop} (B0 : P0) (h : P0 → Q := by (intro b0_; repeat (first | (with_reducible first | exact b0_ | apply IsS147.alloc | apply IsS147.drewN | apply IsS147.drew | apply IsS147.set_1) | exact b0_))) : Q := h B0
theorem spec_l20Results.s2 {P0 P1 Q : Prop} (B0 : P0) (B1 : P1) (h : P0 → P1 → Q := by (intro b0_ b1_; repeat (first | (with_reducible first | exact b0_ | apply below_alloc | apply pw_below_drewN | apply below_drew1 | refine below_set ?_ (IsS147.ge b1_)) | exact b0_))) : Q := h B0 B1
theorem spec_l20Results.s3 {P0 P1 Q : Prop} (B0 : P0) (B1 : P1) (h : P0 → P1 → Q := by (intro b0_ b1_; repeat (first | (with_reducible first | exact b0_ | apply KeepBut.set_ | apply keep_drewN | apply keep_drew | apply keep_alloc | refine keep_far ?_ b1_ _) | exact b0_))) : Q := h B0 B1
theorem spec_l20Results.s4 {P0 P1 Q : Prop} (B0 : P0) (B1 : P1) (h : P0 → P1 → Q := by (intro b0_ b1_; repeat (first | (with_reducible first | exact b0_ | apply IsS147.alloc | apply IsS147.drewN | apply IsS147.drew | apply IsS147.set_1 | refine IsS147.far ?_ b1_ _) | exact b0_))) : Q := h B0 B1
theorem spec_l20Results.s5 {P0 P1 P2 Q : Prop} (B0 : P0) (B1 : P1) (B2 : P2) (h : P0 → P1 → P2 → Q := by (intro b0_ b1_ b2_; repeat (first | (with_reducible first | exact b0_ | apply below_alloc | apply pw_below_drewN | apply below_drew1 | refine below_set ?_ (IsS147.ge b1_) | refine below_set ?_ b2_) | exact b0_))) : Q := h B0 B1 B2
def spec_l20Results.m0 : Array Bool := #[o_, o_, o_, o_, o_, o_, o_, o_, o_, o_, o_, o_, o_, o_, o_, o_]
def spec_l20Results.m1 : Array Bool := #[i_, o_, o_, o_, o_, o_, o_, o_, o_, o_, o_, o_, o_, o_, o_, o_]
def spec_l20Results.m2 : Array Bool := #[i_, i_, o_, o_, o_, o_, o_, o_, o_, o_, o_, o_, o_, o_, o_, o_]
def spec_l20Results.m3 : Array Bool := #[i_, i_, o_, o_, i_, o_, o_, o_, o_, o_, o_, o_, o_, o_, o_, o_]
def spec_l20Results.m4 : Array Bool := #[i_, i_, o_, o_, i_, o_, i_, o_, o_, o_, o_, o_, o_, o_, o_, o_]
def spec_l20Results.m5 : Array Bool := #[i_, i_, o_, o_, i_, o_, i_, i_, o_, o_, o_, o_, o_, o_, o_, o_]
def spec_l20Results.m6 : Array Bool := #[i_, i_, o_, o_, i_, o_, i_, i_, i_, o_, o_, o_, o_, o_, o_, o_]
def spec_l20Results.m7 : Array Bool := #[i_, i_, o_, o_, i_, o_, i_, i_, i_, i_, o_, o_, o_, o_, o_, o_]
def spec_l20Results.m8 : Array Bool := #[i_, i_, o_, o_, i_, i_, i_, i_, i_, i_, o_, o_, o_, o_, o_, o_]
def spec_l20Results.m9 : Array Bool := #[i_, i_, i_, o_, i_, i_, i_, i_, i_, i_, o_, o_, o_, o_, o_, o_]
def spec_l20Results.m10 : Array Bool := #[i_, i_, i_, i_, i_, i_, i_, i_, i_, i_, o_, o_, o_, o_, o_, o_]
def spec_l20Results.m11 : Array Bool := #[i_, i_, i_, i_, i_, i_, i_, i_, i_, i_, i_, o_, o_, o_, o_, o_]
def spec_l20Results.m12 : Array Bool := #[i_, i_, i_, i_, i_, i_, i_, i_, i_, i_, i_, i_, o_, o_, o_, o_]
def spec_l20Results.m13 : Array Bool := #[i_, i_, i_, i_, i_, i_, i_, i_, i_, i_, i_, i_, i_, o_, o_, o_]
def spec_l20Results.m14 : Array Bool := #[i_, i_, i_, i_, i_, i_, i_, i_, i_, i_, i_, i_, i_, i_, o_, o_]
def spec_l20Results.m15 : Array Bool := #[i_, i_, i_, i_, i_, i_, i_, i_, i_, i_, i_, i_, i_, i_, i_, o_]
def spec_l20Results.m16 : Array Bool := #[i_, i_, i_, i_, i_, i_, i_, i_, i_, i_, i_, i_, i_, i_, i_, i_]
set_option maxHeartbeats 8000000 in
set_option maxRecDepth 100000 in
theorem spec_l20Results.calls (k : Nat) (g : Nat) (s0_0 : List Int) (s0_1 : Int) (a1 : Int) (r1 : List (S42)) (r2 : Int) (w0 w : World) (hI : IsS147 w0 w g s0_0 s0_1) (hB : Below w0.heap.size w0 w) (h : spec_l20Results.f k s0_0 s0_1 a1 = some (r1, r2)) :
  Calls Try.prog 77 #[.pointer (some ⟨g, 0, none⟩), .int .i64 a1] w fun e w' => ∃ v0_ : Value, e = .returned (v0_) ∧ Kd.R k42 42 w' w.heap.size (fun _ => True) v0_ r1 ∧ IsS147 w0 w' g s0_0 r2 ∧ Below w0.heap.size w0 w' ∧ KeepBut w w' g none := by
 have hu40 := Try.underlying40
 have hu42 := Try.underlying42
 have HI0 := Aside0.mk hI
 have HK := Aside0.mk (KeepBut.refl w g none)
 have HL := Aside0.mk hB.size
 clear hI
 have HW0 := Aside0.mk hB.size
 have HB := Aside0.mk hB
 clear hB
 have H : ((spec_l20Rd_pick.f k s0_0 s0_1 6).bind fun bt326 => (spec_l20Results.l0 k a1 (([] : List (S42))) (([] : List (S29))) 1 bt326.1 s0_0 bt326.2)) = some (r1, r2) := h
 clear h
 obtain ⟨y320, hy320⟩ : ∃ y_ : List (S42), y_ = (([] : List (S42))) := ⟨_, rfl⟩
 replace H : ((spec_l20Rd_pick.f k s0_0 s0_1 6).bind fun bt326 => (spec_l20Results.l0 k a1 y320 (([] : List (S29))) 1 bt326.1 s0_0 bt326.2)) = some (r1, r2) := by first | (rw [hy320]; with_reducible exact H) | (have H2_ := (Option.bind_some _ _).symm.trans H; rw [hy320]; with_reducible exact H2_) | (have H2_ := (Option.bind_some _ _).symm.trans H; with_reducible exact H2_) | with_reducible exact H | (rw [hy320]; exact H) | exact H
 have Ny320 := Aside0.mk hy320
 clear hy320
 obtain ⟨y323, hy323⟩ : ∃ y_ : List (S29), y_ = (([] : List (S29))) := ⟨_, rfl⟩
 replace H : ((spec_l20Rd_pick.f k s0_0 s0_1 6).bind fun bt326 => (spec_l20Results.l0 k a1 y320 y323 1 bt326.1 s0_0 bt326.2)) = some (r1, r2) := by first | (rw [hy323]; with_reducible exact H) | (have H2_ := (Option.bind_some _ _).symm.trans H; rw [hy323]; with_reducible exact H2_) | (have H2_ := (Option.bind_some _ _).symm.trans H; with_reducible exact H2_) | with_reducible exact H | (rw [hy323]; exact H) | exact H
 have Ny323 := Aside0.mk hy323
 clear hy323
 replace H := Option.bind_eq_some_iff.mp H
 obtain ⟨⟨t326, t327⟩, A30, H⟩ := H
 replace H : (spec_l20Results.l0 k a1 y320 y323 1 t326 s0_0 t327) = some (r1, r2) := H
 have A3 := Aside0.mk A30
 clear A30
 have H' := Aside0.mk H
 clear H
 go_enter Try.func77, Try.ntmps77
 go_wp2_with (first | ((with_reducible refine gate_dst (N := 15) rfl ?_); refine Kd.R_lit k42 _ 42 ?hg (N := 15) ?hd (xs := ([] : List (S42))) (inner := []) (ok := fun _ => True) (okp := fun _ => True) ?hr ?hp (fun _ hk => hk) trivial (Below.refl _ _) (Nat.le_refl _) (by simp) ?_; (case hd => rfl); (case hg => rfl); (case hr => first | (go_simp; done) | (go_simp; rfl)); (case hp => exact (Reps.none _ _)); intro v321 w4 ho5 hb hg_ hnew_; clear hg_ hnew_; (first | rw [← Ny320.out] at ho5 | (simp only [Int.reduceToNat] at ho5; rw [← Ny320.out] at ho5)); have n0_ := Aside0.mk (Kd.R_lower ho5 (keep_size (w := w) (g := g) (row := none) (spec_l20Results.s0 HK.out))); have n1_ := Aside0.mk (IsS147.below (spec_l20Results.s1 HI0.out) hb); have n2_ := Aside0.mk (KeepBut.trans (spec_l20Results.s0 HK.out) (KeepBut.of_below hb g none) (.inl rfl)); have n3_ := Aside0.mk (below_step (spec_l20Results.s2 HB.out HI0.out) hb); clear HI0; clear HK; clear HB; have HO322 := n0_; have HI0 := n1_; have HK := n2_; have HB := n3_; clear n0_ n1_ n2_ n3_; clear hb ho5) | ((with_reducible refine gate_dst (N := 16) rfl ?_); refine Kd.R_lit k29 _ 29 ?hg (N := 16) ?hd (xs := ([] : List (S29))) (inner := []) (ok := fun _ => True) (okp := fun _ => True) ?hr ?hp (fun _ hk => hk) trivial (Below.refl _ _) (Nat.le_refl _) (by simp) ?_; (case hd => rfl); (case hg => rfl); (case hr => first | (go_simp; done) | (go_simp; rfl)); (case hp => exact (Reps.none _ _)); intro v324 w6 ho7 hb hg_ hnew_; clear hg_ hnew_; (first | rw [← Ny323.out] at ho7 | (simp only [Int.reduceToNat] at ho7; rw [← Ny323.out] at ho7)); have n0_ := Aside0.mk (Kd.R_below (kr HO322.out) hb); have n1_ := Aside0.mk (Kd.R_lower ho7 (keep_size (w := w) (g := g) (row := none) (spec_l20Results.s0 HK.out))); have n2_ := Aside0.mk (IsS147.below (spec_l20Results.s1 HI0.out) hb); have n3_ := Aside0.mk (KeepBut.trans (spec_l20Results.s0 HK.out) (KeepBut.of_below hb g none) (.inl rfl)); have n4_ := Aside0.mk (below_step (spec_l20Results.s2 HB.out HI0.out) hb); clear HO322; clear HI0; clear HK; clear HB; have HO322 := n0_; have HO325 := n1_; have HI0 := n2_; have HK := n3_; have HB := n4_; clear n0_ n1_ n2_ n3_ n4_; clear hb ho7) | ((with_reducible refine gate_callee (f := 78) rfl ?_); refine gsl (some 18) rfl Try.func78 #[.pointer (some ⟨g, 0, none⟩), .int .i64 6] rfl ?_; (with_reducible refine (spec_l20Rd_pick.calls k g s0_0 s0_1 6 t326 t327 w0 _ ?side1 ?side2 A3.out).mono ?_); (case side1 => exact spec_l20Results.s1 HI0.out); (case side2 => exact spec_l20Results.s2 HB.out HI0.out); rintro e w8 ⟨rfl, hi, hb, hk⟩; refine ⟨_, rfl, ?_⟩; have n0_ := Aside0.mk (Kd.R_mono (Kd.R_keep (IsS147.apart (show IsS147 w0 _ g s0_0 s0_1 from spec_l20Results.s1 HI0.out) (kr HO322.out) (by decide)) hk (fun _ h => h.2)) (fun _ h => h.1)); have n1_ := Aside0.mk (Kd.R_mono (Kd.R_keep (IsS147.apart (show IsS147 w0 _ g s0_0 s0_1 from spec_l20Results.s1 HI0.out) (kr HO325.out) (by decide)) hk (fun _ h => h.2)) (fun _ h => h.1)); have n2_ := Aside0.mk (KeepBut.trans (spec_l20Results.s0 HK.out) hk (.inl rfl)); have n3_ := Aside0.mk (hb); have n4_ := Aside0.mk (hi); clear HO322; clear HO325; clear HK; clear HB; clear HI0; have HO322 := n0_; have HO325 := n1_; have HK := n2_; have HB := n3_; have HI0 := n4_; clear n0_ n1_ n2_ n3_ n4_; (try clear hb); (try clear hb2); (try clear hk); (try clear hi)))
 go_loopg [5, 6, 7, 8] k (fun kq v5 v6 v7 v8 w' => ∃ (x5_1 : List (S42)) (x6_1 : List (S29)) (x7_1 : Int) (x8_1 : Int) (x1001_1 : Int), v7 = .int .i64 x7_1 ∧ v8 = .int .i64 x8_1 ∧ Aside0 (spec_l20Results.l0 kq a1 x5_1 x6_1 x7_1 x8_1 s0_0 x1001_1 = some (r1, r2)) ∧ Aside0 (kq ≤ k) ∧ Aside0 (Kd.R k42 42 w' w.heap.size (fun _ => True) v5 x5_1) ∧ Aside0 (Kd.R k29 29 w' w.heap.size (fun _ => True) v6 x6_1) ∧ Aside0 (IsS147 w0 w' g s0_0 x1001_1) ∧ Aside0 (KeepBut w w' g none) ∧ Aside0 (Below w0.heap.size w0 w'))
 case atStart => exact ⟨(y320), (y323), (1), (t326), (t327), (by first | rfl | (simp; done) | (simp [*]; done) | (simp [bne_nil_, beq_nil_]; done)), (by first | rfl | (simp; done) | (simp [*]; done) | (simp [bne_nil_, beq_nil_]; done)), H', ⟨Nat.le_refl _⟩, ⟨by (with_reducible repeat (first | apply Kd.R_alloc | apply Kd.R_drewN | apply Kd.R_drew)); exact HO322.out⟩, ⟨by (with_reducible repeat (first | apply Kd.R_alloc | apply Kd.R_drewN | apply Kd.R_drew)); exact HO325.out⟩, ⟨spec_l20Results.s1 HI0.out⟩, ⟨spec_l20Results.s0 HK.out⟩, ⟨spec_l20Results.s2 HB.out HI0.out⟩⟩
 case round =>
  clear H'
  try clear p2
  try clear c7
  obtain ⟨x5_1, x6_1, x7_1, x8_1, x1001_1, rfl, rfl, HA, HK1, HO_5, HO_6, HI0, HK, HB⟩ := hrel
  cases gk with
  | zero => exact absurd HA.out (by simp [spec_l20Results.l0])
  | succ k1 =>
   have H := HA.out
   clear HA
   simp only [spec_l20Results.l0] at H
   by_cases c9 : x8_1 > 0
   ·
    rw [if_pos c9] at H
    have c9b0 : decide (0 < x8_1) = true := decide_eq_true c9
    clear c9
    replace H := Option.bind_eq_some_iff.mp H
    obtain ⟨⟨t328, t329, t330, t331, t332⟩, A100, H⟩ := H
    replace H : ((some (([(⟨#[98]⟩ : ByteArray), (⟨#[99]⟩ : ByteArray)] : List ByteArray) : List ByteArray)).bind fun y334 => ((spec_l20Rd_pick.f k1 s0_0 t332 4).bind fun bt337 => (if 0 ≤ (wrap64 (Int.tdiv bt337.1 3)) then (if (wrap64 (Int.tdiv bt337.1 3)) < (y334.length : Int) then ((spec_ApplyCommand.f k1 x6_1 t328 (rdOf ByteArray.empty y334 (wrap64 (Int.tdiv bt337.1 3))) t330 t331).bind fun bt340 => ((spec_l20Rd_pick.f k1 s0_0 bt337.2 4).bind fun bt344 => ((spec_l20Rd_pick.f k1 s0_0 bt344.2 3).bind fun bt346 => ((spec_l20Rd_pick.f k1 s0_0 bt346.2 4).bind fun bt348 => (if x5_1.length < 1759218604441 then (spec_l20Results.l0 k1 a1 (x5_1 ++ [(⟨wrap64 (1 + bt346.1), x8_1, (⟨t328, rdOf ByteArray.empty y334 (wrap64 (Int.tdiv bt337.1 3)), t330, t331⟩ : S40), bt340.2, mx 0 (wrap64 (x7_1 - bt344.1)), wrap64 (x7_1 + bt348.1)⟩ : S42)]) bt340.1 (wrap64 (x7_1 + 1)) (wrap64 (x8_1 - 1)) s0_0 bt348.2) else (none)))))) else (none)) else (none)))) = some (r1, r2) := H
    have A10 := Aside0.mk A100
    clear A100
    obtain ⟨y334, hy334⟩ : ∃ y_ : List ByteArray, y_ = (([(⟨#[98]⟩ : ByteArray), (⟨#[99]⟩ : ByteArray)] : List ByteArray)) := ⟨_, rfl⟩
    replace H : ((spec_l20Rd_pick.f k1 s0_0 t332 4).bind fun bt337 => (if 0 ≤ (wrap64 (Int.tdiv bt337.1 3)) then (if (wrap64 (Int.tdiv bt337.1 3)) < (y334.length : Int) then ((spec_ApplyCommand.f k1 x6_1 t328 (rdOf ByteArray.empty y334 (wrap64 (Int.tdiv bt337.1 3))) t330 t331).bind fun bt340 => ((spec_l20Rd_pick.f k1 s0_0 bt337.2 4).bind fun bt344 => ((spec_l20Rd_pick.f k1 s0_0 bt344.2 3).bind fun bt346 => ((spec_l20Rd_pick.f k1 s0_0 bt346.2 4).bind fun bt348 => (if x5_1.length < 1759218604441 then (spec_l20Results.l0 k1 a1 (x5_1 ++ [(⟨wrap64 (1 + bt346.1), x8_1, (⟨t328, rdOf ByteArray.empty y334 (wrap64 (Int.tdiv bt337.1 3)), t330, t331⟩ : S40), bt340.2, mx 0 (wrap64 (x7_1 - bt344.1)), wrap64 (x7_1 + bt348.1)⟩ : S42)]) bt340.1 (wrap64 (x7_1 + 1)) (wrap64 (x8_1 - 1)) s0_0 bt348.2) else (none)))))) else (none)) else (none))) = some (r1, r2) := by first | (rw [hy334]; with_reducible exact H) | (have H2_ := (Option.bind_some _ _).symm.trans H; rw [hy334]; with_reducible exact H2_) | (have H2_ := (Option.bind_some _ _).symm.trans H; with_reducible exact H2_) | with_reducible exact H | (rw [hy334]; exact H) | exact H
    have Ny334 := Aside0.mk hy334
    clear hy334
    replace H := Option.bind_eq_some_iff.mp H
    obtain ⟨⟨t337, t338⟩, A110, H⟩ := H
    replace H : (if 0 ≤ (wrap64 (Int.tdiv t337 3)) then (if (wrap64 (Int.tdiv t337 3)) < (y334.length : Int) then ((spec_ApplyCommand.f k1 x6_1 t328 (rdOf ByteArray.empty y334 (wrap64 (Int.tdiv t337 3))) t330 t331).bind fun bt340 => ((spec_l20Rd_pick.f k1 s0_0 t338 4).bind fun bt344 => ((spec_l20Rd_pick.f k1 s0_0 bt344.2 3).bind fun bt346 => ((spec_l20Rd_pick.f k1 s0_0 bt346.2 4).bind fun bt348 => (if x5_1.length < 1759218604441 then (spec_l20Results.l0 k1 a1 (x5_1 ++ [(⟨wrap64 (1 + bt346.1), x8_1, (⟨t328, rdOf ByteArray.empty y334 (wrap64 (Int.tdiv t337 3)), t330, t331⟩ : S40), bt340.2, mx 0 (wrap64 (x7_1 - bt344.1)), wrap64 (x7_1 + bt348.1)⟩ : S42)]) bt340.1 (wrap64 (x7_1 + 1)) (wrap64 (x8_1 - 1)) s0_0 bt348.2) else (none)))))) else (none)) else (none)) = some (r1, r2) := H
    have A11 := Aside0.mk A110
    clear A110
    obtain ⟨ji12, hji12⟩ : ∃ j_ : Int, (wrap64 (Int.tdiv t337 3)) = j_ := ⟨_, rfl⟩
    replace H : (if 0 ≤ (ji12) then (if (ji12) < (y334.length : Int) then ((spec_ApplyCommand.f k1 x6_1 t328 (rdOf ByteArray.empty y334 (ji12)) t330 t331).bind fun bt340 => ((spec_l20Rd_pick.f k1 s0_0 t338 4).bind fun bt344 => ((spec_l20Rd_pick.f k1 s0_0 bt344.2 3).bind fun bt346 => ((spec_l20Rd_pick.f k1 s0_0 bt346.2 4).bind fun bt348 => (if x5_1.length < 1759218604441 then (spec_l20Results.l0 k1 a1 (x5_1 ++ [(⟨wrap64 (1 + bt346.1), x8_1, (⟨t328, rdOf ByteArray.empty y334 (ji12), t330, t331⟩ : S40), bt340.2, mx 0 (wrap64 (x7_1 - bt344.1)), wrap64 (x7_1 + bt348.1)⟩ : S42)]) bt340.1 (wrap64 (x7_1 + 1)) (wrap64 (x8_1 - 1)) s0_0 bt348.2) else (none)))))) else (none)) else (none)) = some (r1, r2) := by first | (rw [hji12] at H; exact H) | (simp only [hji12] at H ⊢; exact H)
    (try rw [hji12] at A10)
    (try rw [hji12] at A11)
    have hji12w : (IntKind.i64.wrap (Int.tdiv t337 3)) = ji12 := (i64_w _).trans hji12
    by_cases c13 : 0 ≤ (ji12)
    ·
     rw [if_pos c13] at H
     have c13b0 : decide (0 ≤ (ji12)) = true := decide_eq_true c13
     clear c13
     by_cases c14 : (ji12) < (y334.length : Int)
     ·
      rw [if_pos c14] at H
      have c14b0 : decide ((ji12) < (y334.length : Int)) = true := decide_eq_true c14
      clear c14
      replace H := Option.bind_eq_some_iff.mp H
      obtain ⟨⟨t340, t343⟩, A150, H⟩ := H
      replace H : ((spec_l20Rd_pick.f k1 s0_0 t338 4).bind fun bt344 => ((spec_l20Rd_pick.f k1 s0_0 bt344.2 3).bind fun bt346 => ((spec_l20Rd_pick.f k1 s0_0 bt346.2 4).bind fun bt348 => (if x5_1.length < 1759218604441 then (spec_l20Results.l0 k1 a1 (x5_1 ++ [(⟨wrap64 (1 + bt346.1), x8_1, (⟨t328, rdOf ByteArray.empty y334 (ji12), t330, t331⟩ : S40), t343, mx 0 (wrap64 (x7_1 - bt344.1)), wrap64 (x7_1 + bt348.1)⟩ : S42)]) t340 (wrap64 (x7_1 + 1)) (wrap64 (x8_1 - 1)) s0_0 bt348.2) else (none))))) = some (r1, r2) := H
      have A15 := Aside0.mk A150
      clear A150
      replace H := Option.bind_eq_some_iff.mp H
      obtain ⟨⟨t344, t345⟩, A160, H⟩ := H
      replace H : ((spec_l20Rd_pick.f k1 s0_0 t345 3).bind fun bt346 => ((spec_l20Rd_pick.f k1 s0_0 bt346.2 4).bind fun bt348 => (if x5_1.length < 1759218604441 then (spec_l20Results.l0 k1 a1 (x5_1 ++ [(⟨wrap64 (1 + bt346.1), x8_1, (⟨t328, rdOf ByteArray.empty y334 (ji12), t330, t331⟩ : S40), t343, mx 0 (wrap64 (x7_1 - t344)), wrap64 (x7_1 + bt348.1)⟩ : S42)]) t340 (wrap64 (x7_1 + 1)) (wrap64 (x8_1 - 1)) s0_0 bt348.2) else (none)))) = some (r1, r2) := H
      have A16 := Aside0.mk A160
      clear A160
      obtain ⟨ji17, hji17⟩ : ∃ j_ : Int, (mx 0 (wrap64 (x7_1 - t344))) = j_ := ⟨_, rfl⟩
      replace H : ((spec_l20Rd_pick.f k1 s0_0 t345 3).bind fun bt346 => ((spec_l20Rd_pick.f k1 s0_0 bt346.2 4).bind fun bt348 => (if x5_1.length < 1759218604441 then (spec_l20Results.l0 k1 a1 (x5_1 ++ [(⟨wrap64 (1 + bt346.1), x8_1, (⟨t328, rdOf ByteArray.empty y334 (ji12), t330, t331⟩ : S40), t343, ji17, wrap64 (x7_1 + bt348.1)⟩ : S42)]) t340 (wrap64 (x7_1 + 1)) (wrap64 (x8_1 - 1)) s0_0 bt348.2) else (none)))) = some (r1, r2) := by first | (rw [hji17] at H; exact H) | (simp only [hji17] at H ⊢; exact H)
      (try rw [hji17] at A10)
      (try rw [hji17] at A11)
      (try rw [hji17] at A15)
      (try rw [hji17] at A16)
      have hji17_ : (if 0 < (wrap64 (x7_1 - t344)) then (wrap64 (x7_1 - t344)) else 0) = ji17 := hji17
      replace H := Option.bind_eq_some_iff.mp H
      obtain ⟨⟨t346, t347⟩, A180, H⟩ := H
      replace H : ((spec_l20Rd_pick.f k1 s0_0 t347 4).bind fun bt348 => (if x5_1.length < 1759218604441 then (spec_l20Results.l0 k1 a1 (x5_1 ++ [(⟨wrap64 (1 + t346), x8_1, (⟨t328, rdOf ByteArray.empty y334 (ji12), t330, t331⟩ : S40), t343, ji17, wrap64 (x7_1 + bt348.1)⟩ : S42)]) t340 (wrap64 (x7_1 + 1)) (wrap64 (x8_1 - 1)) s0_0 bt348.2) else (none))) = some (r1, r2) := H
      have A18 := Aside0.mk A180
      clear A180
      replace H := Option.bind_eq_some_iff.mp H
      obtain ⟨⟨t348, t349⟩, A190, H⟩ := H
      replace H : (if x5_1.length < 1759218604441 then (spec_l20Results.l0 k1 a1 (x5_1 ++ [(⟨wrap64 (1 + t346), x8_1, (⟨t328, rdOf ByteArray.empty y334 (ji12), t330, t331⟩ : S40), t343, ji17, wrap64 (x7_1 + t348)⟩ : S42)]) t340 (wrap64 (x7_1 + 1)) (wrap64 (x8_1 - 1)) s0_0 t349) else (none)) = some (r1, r2) := H
      have A19 := Aside0.mk A190
      clear A190
      by_cases c20 : x5_1.length < 1759218604441
      ·
       rw [if_pos c20] at H
       have LMc20 := Aside0.mk c20
       clear c20
       obtain ⟨y350, hy350⟩ : ∃ y_ : List (S42), y_ = (x5_1 ++ [(⟨wrap64 (1 + t346), x8_1, (⟨t328, rdOf ByteArray.empty y334 (ji12), t330, t331⟩ : S40), t343, ji17, wrap64 (x7_1 + t348)⟩ : S42)]) := ⟨_, rfl⟩
       replace H : (spec_l20Results.l0 k1 a1 y350 t340 (wrap64 (x7_1 + 1)) (wrap64 (x8_1 - 1)) s0_0 t349) = some (r1, r2) := by first | (rw [hy350]; with_reducible exact H) | (have H2_ := (Option.bind_some _ _).symm.trans H; rw [hy350]; with_reducible exact H2_) | (have H2_ := (Option.bind_some _ _).symm.trans H; with_reducible exact H2_) | with_reducible exact H | (rw [hy350]; exact H) | exact H
       have Ny350 := Aside0.mk hy350
       clear hy350
       have H' := Aside0.mk H
       clear H
       try go_wp2_with (first | ((with_reducible refine gate_callee (f := 129) rfl ?_); refine gsl (some 24) rfl Try.func129 #[.pointer (some ⟨g, 0, none⟩), .int .i64 0] rfl ?_; (with_reducible refine (spec_l20Cmd.calls k1 g s0_0 x1001_1 0 t328 t329 t330 t331 t332 w0 _ ?side1 ?side2 A10.out).mono ?_); (case side1 => exact spec_l20Results.s1 HI0.out); (case side2 => exact spec_l20Results.s2 HB.out HI0.out); rintro e w21 ⟨rfl, hi, hb, hk⟩; refine ⟨_, rfl, ?_⟩; have n0_ := Aside0.mk (Kd.R_mono (Kd.R_keep (IsS147.apart (show IsS147 w0 _ g s0_0 x1001_1 from spec_l20Results.s1 HI0.out) (kr HO_5.out) (by decide)) hk (fun _ h => h.2)) (fun _ h => h.1)); have n1_ := Aside0.mk (Kd.R_mono (Kd.R_keep (IsS147.apart (show IsS147 w0 _ g s0_0 x1001_1 from spec_l20Results.s1 HI0.out) (kr HO_6.out) (by decide)) hk (fun _ h => h.2)) (fun _ h => h.1)); have n2_ := Aside0.mk (KeepBut.trans (spec_l20Results.s0 HK.out) hk (.inl rfl)); have n3_ := Aside0.mk (hb); have n4_ := Aside0.mk (hi); clear HO_5; clear HO_6; clear HK; clear HB; clear HI0; have HO_5 := n0_; have HO_6 := n1_; have HK := n2_; have HB := n3_; have HI0 := n4_; clear n0_ n1_ n2_ n3_ n4_; (try clear hb); (try clear hb2); (try clear hk); (try clear hi)) | ((with_reducible refine gate_dst (N := 9) rfl ?_); refine bxe (N := 9) (cs := #[.int .i64 0, .string (⟨#[]⟩ : ByteArray), .int .i64 0, .int .i64 0]) (t := 40) ?_; intro gb333 hg w22 hbox hb; have n0_ := Aside0.mk (Kd.R_below (kr HO_5.out) hb); have n1_ := Aside0.mk (Kd.R_below (kr HO_6.out) hb); have n2_ := Aside0.mk (IsS147.below (spec_l20Results.s1 HI0.out) hb); have n3_ := Aside0.mk (KeepBut.trans (spec_l20Results.s0 HK.out) (KeepBut.of_below hb g none) (.inl rfl)); have n4_ := Aside0.mk (below_step (spec_l20Results.s2 HB.out HI0.out) hb); have n5_ := Aside0.mk (hbox); have n6_ := Aside0.mk ((by rw [hg]; exact (keep_size (w := w) (g := g) (row := none) (spec_l20Results.s0 HK.out)) : w.heap.size ≤ gb333)); have n7_ := Aside0.mk ((Nat.le_trans HW0.out (by rw [hg]; exact (keep_size (w := w) (g := g) (row := none) (spec_l20Results.s0 HK.out)) : w.heap.size ≤ gb333) : w0.heap.size ≤ gb333)); have n8_ := Aside0.mk ((by rw [hg]; exact Nat.ne_of_lt (IsS147.lt (show IsS147 w0 _ g s0_0 t332 from spec_l20Results.s1 HI0.out)) : g ≠ gb333)); have n9_ := Aside0.mk ((by rw [hg]; exact Nat.ne_of_gt (IsS147.lt (show IsS147 w0 _ g s0_0 t332 from spec_l20Results.s1 HI0.out)) : gb333 ≠ g)); clear HO_5; clear HO_6; clear HI0; clear HK; clear HB; have HO_5 := n0_; have HO_6 := n1_; have HI0 := n2_; have HK := n3_; have HB := n4_; have BK333 := n5_; have GW333 := n6_; have GE333 := n7_; have NB0_333 := n8_; have NB333_0 := n9_; clear n0_ n1_ n2_ n3_ n4_ n5_ n6_ n7_ n8_ n9_; clear hb hbox hg; have hnb23 := NB333_0.out; have hnc23 := NB0_333.out; obtain ⟨hcz24_0, hcz24_1, hcz24_2, hcz24_3, hfz24_0, hfz24_1, hfz24_2, hfz24_3⟩ := cl4 BK333) | ((with_reducible refine gate_dst (N := 25) rfl ?_); refine Kd.R_lit Kd.string _ 9 ?hg (N := 25) ?hd (xs := ([(⟨#[98]⟩ : ByteArray), (⟨#[99]⟩ : ByteArray)] : List ByteArray)) (inner := [.string (⟨#[98]⟩ : ByteArray), .string (⟨#[99]⟩ : ByteArray)]) (ok := fun _ => True) (okp := fun _ => True) ?hr ?hp (fun _ hk => hk) trivial (Below.refl _ _) (Nat.le_refl _) (by simp) ?_; (case hd => rfl); (case hg => rfl); (case hr => first | (go_simp; done) | (go_simp; rfl)); (case hp => exact (Reps.one (show Kd.M Kd.string _ _ _ (⟨#[98]⟩ : ByteArray) [.string (⟨#[98]⟩ : ByteArray)] from rfl) (Reps.one (show Kd.M Kd.string _ _ _ (⟨#[99]⟩ : ByteArray) [.string (⟨#[99]⟩ : ByteArray)] from rfl) (Reps.none _ _)))); intro v335 w25 ho26 hb hg_ hnew_; clear hg_ hnew_; (first | rw [← Ny334.out] at ho26 | (simp only [Int.reduceToNat] at ho26; rw [← Ny334.out] at ho26)); have n0_ := Aside0.mk (Kd.R_below (by (with_reducible repeat (first | apply Kd.R_alloc | apply Kd.R_drewN | apply Kd.R_drew)); exact (Kd.R_mono (Kd.R_far (p := ⟨gb333, 3, none⟩) (Kd.R_far (p := ⟨gb333, 2, none⟩) (Kd.R_far (p := ⟨gb333, 1, none⟩) (Kd.R_far (p := ⟨gb333, 0, none⟩) (Kd.R_types HO_5.out BK333.out (by decide)) (fun _ hk => hk.2) (.int .i64 t328)) (fun _ hk => hk.2) (.string t329)) (fun _ hk => hk.2) (.int .i64 t330)) (fun _ hk => hk.2) (.int .i64 t331)) (fun _ h_ => h_.1))) hb); have n1_ := Aside0.mk (Kd.R_below (by (with_reducible repeat (first | apply Kd.R_alloc | apply Kd.R_drewN | apply Kd.R_drew)); exact (Kd.R_mono (Kd.R_far (p := ⟨gb333, 3, none⟩) (Kd.R_far (p := ⟨gb333, 2, none⟩) (Kd.R_far (p := ⟨gb333, 1, none⟩) (Kd.R_far (p := ⟨gb333, 0, none⟩) (Kd.R_types HO_6.out BK333.out (by decide)) (fun _ hk => hk.2) (.int .i64 t328)) (fun _ hk => hk.2) (.string t329)) (fun _ hk => hk.2) (.int .i64 t330)) (fun _ hk => hk.2) (.int .i64 t331)) (fun _ h_ => h_.1))) hb); have n2_ := Aside0.mk (Kd.R_lower ho26 (keep_size (w := w) (g := g) (row := none) (spec_l20Results.s3 HK.out GW333.out))); have n3_ := Aside0.mk (IsS147.below (show IsS147 w0 ((((w22.setCell ⟨gb333, 0, none⟩ (.int .i64 t328)).setCell ⟨gb333, 1, none⟩ (.string t329)).setCell ⟨gb333, 2, none⟩ (.int .i64 t330)).setCell ⟨gb333, 3, none⟩ (.int .i64 t331)) g s0_0 t332 from spec_l20Results.s4 HI0.out NB0_333.out) hb); have n4_ := Aside0.mk (blk_below (g := gb333) (o := .cells #[.int .i64 t328, .string t329, .int .i64 t330, .int .i64 t331] 40 (0, 0)) (by (with_reducible repeat (first | refine blk_drewN ?_ _ | refine blk_drew ?_ | refine blk_alloc ?_ _)); refine blk_put (cs := #[.int .i64 t328, .string t329, .int .i64 t330, .int .i64 0]) ?_ 3 _ rfl; (with_reducible repeat (first | refine blk_drewN ?_ _ | refine blk_drew ?_ | refine blk_alloc ?_ _)); refine blk_put (cs := #[.int .i64 t328, .string t329, .int .i64 0, .int .i64 0]) ?_ 2 _ rfl; (with_reducible repeat (first | refine blk_drewN ?_ _ | refine blk_drew ?_ | refine blk_alloc ?_ _)); refine blk_put (cs := #[.int .i64 t328, .string (⟨#[]⟩ : ByteArray), .int .i64 0, .int .i64 0]) ?_ 1 _ rfl; (with_reducible repeat (first | refine blk_drewN ?_ _ | refine blk_drew ?_ | refine blk_alloc ?_ _)); refine blk_put (cs := #[.int .i64 0, .string (⟨#[]⟩ : ByteArray), .int .i64 0, .int .i64 0]) ?_ 0 _ rfl; (with_reducible repeat (first | refine blk_drewN ?_ _ | refine blk_drew ?_ | refine blk_alloc ?_ _)); exact BK333.out) hb); have n5_ := Aside0.mk (KeepBut.trans (spec_l20Results.s3 HK.out GW333.out) (KeepBut.of_below hb g none) (.inl rfl)); have n6_ := Aside0.mk (below_step (spec_l20Results.s5 HB.out HI0.out GE333.out) hb); clear HO_5; clear HO_6; clear HI0; clear BK333; clear HK; clear HB; have HO_5 := n0_; have HO_6 := n1_; have HO336 := n2_; have HI0 := n3_; have BK333 := n4_; have HK := n5_; have HB := n6_; clear n0_ n1_ n2_ n3_ n4_ n5_ n6_; clear hb ho26) | ((with_reducible refine gate_callee (f := 78) rfl ?_); refine gsl (some 27) rfl Try.func78 #[.pointer (some ⟨g, 0, none⟩), .int .i64 4] rfl ?_; (with_reducible refine (spec_l20Rd_pick.calls k1 g s0_0 t332 4 t337 t338 w0 _ ?side1 ?side2 A11.out).mono ?_); (case side1 => exact spec_l20Results.s4 HI0.out NB0_333.out); (case side2 => exact spec_l20Results.s5 HB.out HI0.out GE333.out); rintro e w27 ⟨rfl, hi, hb, hk⟩; refine ⟨_, rfl, ?_⟩; have n0_ := Aside0.mk (Kd.R_mono (Kd.R_keep (IsS147.apart (show IsS147 w0 _ g s0_0 t332 from spec_l20Results.s4 HI0.out NB0_333.out) (kr HO_5.out) (by decide)) hk (fun _ h => h.2)) (fun _ h => h.1)); have n1_ := Aside0.mk (Kd.R_mono (Kd.R_keep (IsS147.apart (show IsS147 w0 _ g s0_0 t332 from spec_l20Results.s4 HI0.out NB0_333.out) (kr HO_6.out) (by decide)) hk (fun _ h => h.2)) (fun _ h => h.1)); have n2_ := Aside0.mk (KeepBut.blk hk (g' := gb333) (o := .cells #[.int .i64 t328, .string t329, .int .i64 t330, .int .i64 t331] 40 (0, 0)) (kb BK333.out) NB333_0.out (by simp)); have n3_ := Aside0.mk (Kd.R_mono (Kd.R_keep (IsS147.apart (show IsS147 w0 _ g s0_0 t332 from spec_l20Results.s4 HI0.out NB0_333.out) (kr HO336.out) (by decide)) hk (fun _ h => h.2)) (fun _ h => h.1)); have n4_ := Aside0.mk (KeepBut.trans (spec_l20Results.s3 HK.out GW333.out) hk (.inl rfl)); have n5_ := Aside0.mk (hb); have n6_ := Aside0.mk (hi); clear HO_5; clear HO_6; clear BK333; clear HO336; clear HK; clear HB; clear HI0; have HO_5 := n0_; have HO_6 := n1_; have BK333 := n2_; have HO336 := n3_; have HK := n4_; have HB := n5_; have HI0 := n6_; clear n0_ n1_ n2_ n3_ n4_ n5_ n6_; (try clear hb); (try clear hb2); (try clear hk); (try clear hi); obtain ⟨Ao28, co28, eo28⟩ := Kd.R_slice HO336.out; subst eo28; have p339 : 0 ≤ ((ji12) : Int) := of_decide_eq_true (by first | (with_reducible assumption) | assumption); have q339 : (ji12) < (y334.length : Int) := of_decide_eq_true (by first | (with_reducible assumption) | assumption); obtain ⟨ad339, e339, hx339_0⟩ := Kd.at_string (Kd.R_reads' HO336.out).2.2 (ji12) p339 q339; cases e339; replace p339 := eq_true p339; replace q339 := eq_true q339; obtain ⟨hcz29_0, hcz29_1, hcz29_2, hcz29_3, hfz29_0, hfz29_1, hfz29_2, hfz29_3⟩ := cl4 BK333; obtain ⟨Ao30, co30, eo30⟩ := Kd.R_slice HO_6.out; subst eo30) | ((with_reducible refine gate_callee (f := 130) rfl ?_); refine goesL_ (some 35) rfl rfl Try.func130 (by kernel_rfl) rfl #[.slice Ao30 x6_1.length co30, .agg #[.int .i64 t328, .string (rdOf ByteArray.empty y334 (ji12)), .int .i64 t330, .int .i64 t331]] rfl (by (try simp only [List.map_toArray, List.map_cons, List.map_nil]); first | done | (simp only [hji12]; rfl) | rfl | (simp only [List.length_drop, List.length_take]; rfl)) ?_; (with_reducible refine (spec_ApplyCommand.calls k1 _ _ x6_1 t328 (rdOf ByteArray.empty y334 (ji12)) t330 t331 t340 t343 _ ?side1 ?side2 A15.out).mono ?_); (case side1 => refine (Kd.R_reads' (e := 29) (base := w.heap.size) (ok := fun k_ => True) (n := x6_1.length) (c := co30) ?_).2.2; exact (by (with_reducible repeat (first | apply Kd.R_alloc | apply Kd.R_drewN | apply Kd.R_drew)); exact (Kd.R_mono (Kd.R_far (p := ⟨gb333, 1, none⟩) (Kd.R_types HO_6.out BK333.out (by decide)) (fun _ hk => hk.2) (.string (rdOf ByteArray.empty y334 (ji12)))) (fun _ h_ => h_.1)))); (case side2 => exact (Kd.R_reads' HO_6.out).2.1); rintro e w31 ⟨v341, rfl, ho0, hb⟩; refine ⟨_, rfl, ?_⟩; have n0_ := Aside0.mk (Kd.R_below (by (with_reducible repeat (first | apply Kd.R_alloc | apply Kd.R_drewN | apply Kd.R_drew)); exact (Kd.R_mono (Kd.R_far (p := ⟨gb333, 1, none⟩) (Kd.R_types HO_5.out BK333.out (by decide)) (fun _ hk => hk.2) (.string (rdOf ByteArray.empty y334 (ji12)))) (fun _ h_ => h_.1))) hb); have n1_ := Aside0.mk (Kd.R_elder' (by (with_reducible repeat (first | apply Kd.R_alloc | apply Kd.R_drewN | apply Kd.R_drew)); exact (Kd.R_mono (Kd.R_far (p := ⟨gb333, 1, none⟩) (Kd.R_types HO_6.out BK333.out (by decide)) (fun _ hk => hk.2) (.string (rdOf ByteArray.empty y334 (ji12)))) (fun _ h_ => h_.1))) (Kd.R_base ho0) hb); have n2_ := Aside0.mk (Kd.R_below (by (with_reducible repeat (first | apply Kd.R_alloc | apply Kd.R_drewN | apply Kd.R_drew)); exact (Kd.R_mono (Kd.R_far (p := ⟨gb333, 1, none⟩) (Kd.R_types HO336.out BK333.out (by decide)) (fun _ hk => hk.2) (.string (rdOf ByteArray.empty y334 (ji12)))) (fun _ h_ => h_.1))) hb); have n3_ := Aside0.mk (Kd.R_lower (Kd.R_new' ho0 (Kd.R_lt (by (with_reducible repeat (first | apply Kd.R_alloc | apply Kd.R_drewN | apply Kd.R_drew)); exact (Kd.R_mono (Kd.R_far (p := ⟨gb333, 1, none⟩) (Kd.R_types HO_6.out BK333.out (by decide)) (fun _ hk => hk.2) (.string (rdOf ByteArray.empty y334 (ji12)))) (fun _ h_ => h_.1))))) (keep_size (w := w) (g := g) (row := none) (spec_l20Results.s3 HK.out GW333.out))); have n4_ := Aside0.mk (IsS147.below (show IsS147 w0 (w27.setCell ⟨gb333, 1, none⟩ (.string (rdOf ByteArray.empty y334 (ji12)))) g s0_0 t338 from spec_l20Results.s4 HI0.out NB0_333.out) hb); have n5_ := Aside0.mk (blk_below (g := gb333) (o := .cells #[.int .i64 t328, .string (rdOf ByteArray.empty y334 (ji12)), .int .i64 t330, .int .i64 t331] 40 (0, 0)) (by (with_reducible repeat (first | refine blk_drewN ?_ _ | refine blk_drew ?_ | refine blk_alloc ?_ _)); refine blk_put (cs := #[.int .i64 t328, .string t329, .int .i64 t330, .int .i64 t331]) ?_ 1 _ rfl; (with_reducible repeat (first | refine blk_drewN ?_ _ | refine blk_drew ?_ | refine blk_alloc ?_ _)); exact BK333.out) hb); have n6_ := Aside0.mk (KeepBut.trans (spec_l20Results.s3 HK.out GW333.out) (KeepBut.of_below hb g none) (.inl rfl)); have n7_ := Aside0.mk (below_step (spec_l20Results.s5 HB.out HI0.out GE333.out) hb); clear HO_5; clear HO_6; clear HO336; clear HI0; clear BK333; clear HK; clear HB; have HO_5 := n0_; have HO_6 := n1_; have HO336 := n2_; have HO342 := n3_; have HI0 := n4_; have BK333 := n5_; have HK := n6_; have HB := n7_; clear n0_ n1_ n2_ n3_ n4_ n5_ n6_ n7_; (try clear hb); (try clear hb2); (try clear hk); (try clear hi); (try clear ho0)) | ((with_reducible refine gate_callee (f := 78) rfl ?_); refine gsl (some 41) rfl Try.func78 #[.pointer (some ⟨g, 0, none⟩), .int .i64 4] rfl ?_; (with_reducible refine (spec_l20Rd_pick.calls k1 g s0_0 t338 4 t344 t345 w0 _ ?side1 ?side2 A16.out).mono ?_); (case side1 => exact spec_l20Results.s4 HI0.out NB0_333.out); (case side2 => exact spec_l20Results.s5 HB.out HI0.out GE333.out); rintro e w32 ⟨rfl, hi, hb, hk⟩; refine ⟨_, rfl, ?_⟩; have n0_ := Aside0.mk (Kd.R_mono (Kd.R_keep (IsS147.apart (show IsS147 w0 _ g s0_0 t338 from spec_l20Results.s4 HI0.out NB0_333.out) (kr HO_5.out) (by decide)) hk (fun _ h => h.2)) (fun _ h => h.1)); have n1_ := Aside0.mk (Kd.R_mono (Kd.R_keep (IsS147.apart (show IsS147 w0 _ g s0_0 t338 from spec_l20Results.s4 HI0.out NB0_333.out) (kr HO_6.out) (by decide)) hk (fun _ h => h.2)) (fun _ h => h.1)); have n2_ := Aside0.mk (KeepBut.blk hk (g' := gb333) (o := .cells #[.int .i64 t328, .string (rdOf ByteArray.empty y334 (ji12)), .int .i64 t330, .int .i64 t331] 40 (0, 0)) (kb BK333.out) NB333_0.out (by simp)); have n3_ := Aside0.mk (Kd.R_mono (Kd.R_keep (IsS147.apart (show IsS147 w0 _ g s0_0 t338 from spec_l20Results.s4 HI0.out NB0_333.out) (kr HO336.out) (by decide)) hk (fun _ h => h.2)) (fun _ h => h.1)); have n4_ := Aside0.mk (Kd.R_mono (Kd.R_keep (IsS147.apart (show IsS147 w0 _ g s0_0 t338 from spec_l20Results.s4 HI0.out NB0_333.out) (kr HO342.out) (by decide)) hk (fun _ h => h.2)) (fun _ h => h.1)); have n5_ := Aside0.mk (KeepBut.trans (spec_l20Results.s3 HK.out GW333.out) hk (.inl rfl)); have n6_ := Aside0.mk (hb); have n7_ := Aside0.mk (hi); clear HO_5; clear HO_6; clear BK333; clear HO336; clear HO342; clear HK; clear HB; clear HI0; have HO_5 := n0_; have HO_6 := n1_; have BK333 := n2_; have HO336 := n3_; have HO342 := n4_; have HK := n5_; have HB := n6_; have HI0 := n7_; clear n0_ n1_ n2_ n3_ n4_ n5_ n6_ n7_; (try clear hb); (try clear hb2); (try clear hk); (try clear hi)))
       have n0_ := Aside0.mk (Kd.R_drew HO_5.out)
       have n1_ := Aside0.mk (Kd.R_drew HO_6.out)
       have n2_ := Aside0.mk (Kd.R_drew HO336.out)
       have n3_ := Aside0.mk (Kd.R_drew HO342.out)
       have n4_ := Aside0.mk (blk_drew BK333.out)
       have n5_ := Aside0.mk (IsS147.drew HI0.out)
       have n6_ := Aside0.mk (keep_drew HK.out)
       have n7_ := Aside0.mk (below_drew1 HB.out)
       clear HO_5
       clear HO_6
       clear HO336
       clear HO342
       clear BK333
       clear HI0
       clear HK
       clear HB
       have HO_5 := n0_
       have HO_6 := n1_
       have HO336 := n2_
       have HO342 := n3_
       have BK333 := n4_
       have HI0 := n5_
       have HK := n6_
       have HB := n7_
       clear n0_ n1_ n2_ n3_ n4_ n5_ n6_ n7_
       refine start_ (n := 16) (S := fun w' => w'.cell? ⟨gb333, 0, none⟩ = some (.int .i64 t328) ∧ w'.cell? ⟨gb333, 1, none⟩ = some (.string (rdOf ByteArray.empty y334 (ji12))) ∧ w'.cell? ⟨gb333, 2, none⟩ = some (.int .i64 t330) ∧ w'.cell? ⟨gb333, 3, none⟩ = some (.int .i64 t331)) (ds := []) spec_l20Results.m0 (by kernel_rfl) rfl rfl ⟨(blk_cell BK333.out 0).trans rfl, (blk_cell BK333.out 1).trans rfl, (blk_cell BK333.out 2).trans rfl, (blk_cell BK333.out 3).trans rfl⟩ (fun hHeld => ?_); refine with_tabW spec_l20Results.tab12 spec_l20Results.bits12 (fun HT_ HW_ => ?_)
       generalize w32.drew = w33 at HO_5 HO_6 HO336 HO342 BK333 HI0 HK HB hHeld ⊢
       refine pur (i := 0) (N := some 44) spec_l20Results.m1 rfl rfl HT_.out ?_
       refine pur (i := 1) (N := some 45) spec_l20Results.m2 rfl rfl HT_.out ?_
       refine pur (i := 4) (N := some 48) spec_l20Results.m3 rfl rfl HT_.out ?_
       refine pur (i := 6) (N := some 50) spec_l20Results.m4 rfl rfl HT_.out ?_
       refine pur (i := 7) (N := some 51) spec_l20Results.m5 rfl rfl HT_.out ?_
       refine pur (i := 8) (N := some 52) spec_l20Results.m6 rfl rfl HT_.out ?_
       refine pur (i := 9) (N := some 53) spec_l20Results.m7 rfl rfl HT_.out ?_
       refine take_ (i := 5) (N := some 49) (v := ?_) (a' := ?_) spec_l20Results.m8 rfl rfl (take_ofW HT_.out HW_.out (by kernel_rfl)) (fun _ _ _ h => h) (Or.inl ⟨by rfl, ?_⟩) hHeld ?_ ?_
       rotate_left
       ·
        rintro w' ⟨s0, s1, s2, s3⟩
        go_simp
        with_reducible rfl
       rotate_left; focus (simp only [Act.put, List.setIfInBounds_toArray, List.set_cons_zero, List.set_cons_succ, i64_w, i32_w]; rfl)
       refine one_ (i := 2) (N := some 46) spec_l20Results.m9 rfl rfl (one_of HT_.out (by kernel_rfl)) (by decide) (fun K hK => ?_)
       refine goes_ Try.func78 (by kernel_rfl) rfl #[.pointer (some ⟨g, 0, none⟩), .int .i64 3] (by rfl) rfl rfl (by (try simp only [List.map_toArray, List.map_cons, List.map_nil]); first | done | rfl | (simp only [List.length_drop, List.length_take]; rfl)) ?_
       with_reducible refine (spec_l20Rd_pick.calls k1 g s0_0 t345 3 t346 t347 w0 _ ?side1 ?side2 A18.out).mono ?_
       (case side1 => exact spec_l20Results.s4 HI0.out NB0_333.out)
       (case side2 => exact spec_l20Results.s5 HB.out HI0.out GE333.out)
       rintro e w34 ⟨rfl, hi, hb, hk⟩
       refine ⟨_, rfl, ?_⟩
       have n0_ := Aside0.mk (Kd.R_mono (Kd.R_keep (IsS147.apart (show IsS147 w0 _ g s0_0 t345 from spec_l20Results.s4 HI0.out NB0_333.out) (kr HO_5.out) (by decide)) hk (fun _ h => h.2)) (fun _ h => h.1))
       have n1_ := Aside0.mk (Kd.R_mono (Kd.R_keep (IsS147.apart (show IsS147 w0 _ g s0_0 t345 from spec_l20Results.s4 HI0.out NB0_333.out) (kr HO_6.out) (by decide)) hk (fun _ h => h.2)) (fun _ h => h.1))
       have n2_ := Aside0.mk (KeepBut.blk hk (g' := gb333) (o := .cells #[.int .i64 t328, .string (rdOf ByteArray.empty y334 (ji12)), .int .i64 t330, .int .i64 t331] 40 (0, 0)) (kb BK333.out) NB333_0.out (by simp))
       have n3_ := Aside0.mk (Kd.R_mono (Kd.R_keep (IsS147.apart (show IsS147 w0 _ g s0_0 t345 from spec_l20Results.s4 HI0.out NB0_333.out) (kr HO336.out) (by decide)) hk (fun _ h => h.2)) (fun _ h => h.1))
       have n4_ := Aside0.mk (Kd.R_mono (Kd.R_keep (IsS147.apart (show IsS147 w0 _ g s0_0 t345 from spec_l20Results.s4 HI0.out NB0_333.out) (kr HO342.out) (by decide)) hk (fun _ h => h.2)) (fun _ h => h.1))
       have n5_ := Aside0.mk (KeepBut.trans (spec_l20Results.s3 HK.out GW333.out) hk (.inl rfl))
       have n6_ := Aside0.mk (hb)
       have n7_ := Aside0.mk (hi)
       clear HO_5
       clear HO_6
       clear BK333
       clear HO336
       clear HO342
       clear HK
       clear HB
       clear HI0
       have HO_5 := n0_
       have HO_6 := n1_
       have BK333 := n2_
       have HO336 := n3_
       have HO342 := n4_
       have HK := n5_
       have HB := n6_
       have HI0 := n7_
       clear n0_ n1_ n2_ n3_ n4_ n5_ n6_ n7_
       (try clear hb)
       (try clear hb2)
       (try clear hk)
       (try clear hi)
       refine hK.out _ _ ⟨(blk_cell BK333.out 0).trans rfl, (blk_cell BK333.out 1).trans rfl, (blk_cell BK333.out 2).trans rfl, (blk_cell BK333.out 3).trans rfl⟩ (fun hHeld => ?_)
       clear hK K
       refine norm_ (a' := ?_) ?_ ?_
       rotate_left
       ·
        show Act.put _ (some 46) _ = _
        simp only [Act.put, List.setIfInBounds_toArray, List.set_cons_zero, List.set_cons_succ, i64_w, i32_w]
        rfl
       refine pur (i := 3) (N := some 47) spec_l20Results.m10 rfl rfl HT_.out ?_
       refine one_ (i := 10) (N := some 54) spec_l20Results.m11 rfl rfl (one_of HT_.out (by kernel_rfl)) (by decide) (fun K hK => ?_)
       refine goes_ Try.func78 (by kernel_rfl) rfl #[.pointer (some ⟨g, 0, none⟩), .int .i64 4] (by rfl) rfl rfl (by (try simp only [List.map_toArray, List.map_cons, List.map_nil]); first | done | rfl | (simp only [List.length_drop, List.length_take]; rfl)) ?_
       with_reducible refine (spec_l20Rd_pick.calls k1 g s0_0 t347 4 t348 t349 w0 _ ?side1 ?side2 A19.out).mono ?_
       (case side1 => exact spec_l20Results.s4 HI0.out NB0_333.out)
       (case side2 => exact spec_l20Results.s5 HB.out HI0.out GE333.out)
       rintro e w35 ⟨rfl, hi, hb, hk⟩
       refine ⟨_, rfl, ?_⟩
       have n0_ := Aside0.mk (Kd.R_mono (Kd.R_keep (IsS147.apart (show IsS147 w0 _ g s0_0 t347 from spec_l20Results.s4 HI0.out NB0_333.out) (kr HO_5.out) (by decide)) hk (fun _ h => h.2)) (fun _ h => h.1))
       have n1_ := Aside0.mk (Kd.R_mono (Kd.R_keep (IsS147.apart (show IsS147 w0 _ g s0_0 t347 from spec_l20Results.s4 HI0.out NB0_333.out) (kr HO_6.out) (by decide)) hk (fun _ h => h.2)) (fun _ h => h.1))
       have n2_ := Aside0.mk (KeepBut.blk hk (g' := gb333) (o := .cells #[.int .i64 t328, .string (rdOf ByteArray.empty y334 (ji12)), .int .i64 t330, .int .i64 t331] 40 (0, 0)) (kb BK333.out) NB333_0.out (by simp))
       have n3_ := Aside0.mk (Kd.R_mono (Kd.R_keep (IsS147.apart (show IsS147 w0 _ g s0_0 t347 from spec_l20Results.s4 HI0.out NB0_333.out) (kr HO336.out) (by decide)) hk (fun _ h => h.2)) (fun _ h => h.1))
       have n4_ := Aside0.mk (Kd.R_mono (Kd.R_keep (IsS147.apart (show IsS147 w0 _ g s0_0 t347 from spec_l20Results.s4 HI0.out NB0_333.out) (kr HO342.out) (by decide)) hk (fun _ h => h.2)) (fun _ h => h.1))
       have n5_ := Aside0.mk (KeepBut.trans (spec_l20Results.s3 HK.out GW333.out) hk (.inl rfl))
       have n6_ := Aside0.mk (hb)
       have n7_ := Aside0.mk (hi)
       clear HO_5
       clear HO_6
       clear BK333
       clear HO336
       clear HO342
       clear HK
       clear HB
       clear HI0
       have HO_5 := n0_
       have HO_6 := n1_
       have BK333 := n2_
       have HO336 := n3_
       have HO342 := n4_
       have HK := n5_
       have HB := n6_
       have HI0 := n7_
       clear n0_ n1_ n2_ n3_ n4_ n5_ n6_ n7_
       (try clear hb)
       (try clear hb2)
       (try clear hk)
       (try clear hi)
       refine hK.out _ _ ⟨(blk_cell BK333.out 0).trans rfl, (blk_cell BK333.out 1).trans rfl, (blk_cell BK333.out 2).trans rfl, (blk_cell BK333.out 3).trans rfl⟩ (fun hHeld => ?_)
       clear hK K
       refine norm_ (a' := ?_) ?_ ?_
       rotate_left
       ·
        show Act.put _ (some 54) _ = _
        simp only [Act.put, List.setIfInBounds_toArray, List.set_cons_zero, List.set_cons_succ, i64_w, i32_w]
        rfl
       refine pur (i := 11) (N := some 55) spec_l20Results.m12 rfl rfl HT_.out ?_
       refine pur (i := 12) (N := some 56) spec_l20Results.m13 rfl rfl HT_.out ?_
       refine one_ (i := 13) (N := some 57) spec_l20Results.m14 rfl rfl (one_of HT_.out (by kernel_rfl)) (by decide) (fun K hK => ?_)
       refine value_ (w1 := ?_) (v := ?_) (by rfl) rfl ?_ ?_
       rotate_left 2
       ·
        go_simp
        constructor
        ·
         rfl
        ·
         rfl
       refine hK.out _ _ ⟨(blk_cell (blk_alloc BK333.out _) 0).trans rfl, (blk_cell (blk_alloc BK333.out _) 1).trans rfl, (blk_cell (blk_alloc BK333.out _) 2).trans rfl, (blk_cell (blk_alloc BK333.out _) 3).trans rfl⟩ (fun hHeld => ?_)
       clear hK K
       refine norm_ (a' := ?_) ?_ ?_
       rotate_left
       ·
        show Act.put _ (some 57) _ = _
        simp only [Act.put, List.setIfInBounds_toArray, List.set_cons_zero, List.set_cons_succ, i64_w, i32_w]
        rfl
       refine one_ (i := 14) (N := some 58) spec_l20Results.m15 rfl rfl (one_of HT_.out (by kernel_rfl)) (by decide) (fun K hK => ?_)
       refine Kd.R_append_step k42 w.heap.size (by rfl) (.tmp 44) (.tmp 57) 32 42 (.agg #[(.int .i64 0), (.int .i64 0), (.int .i64 0), (.string ⟨#[]⟩), (.int .i64 0), (.int .i64 0), (.int .i64 0), (.int .i64 0), (.int .i64 0)]) 80 rfl Try.underlying32 info42 rfl (by decide) (by omega) u5 x5_1 (⟨wrap64 (1 + t346), x8_1, (⟨t328, rdOf ByteArray.empty y334 (ji12), t330, t331⟩ : S40), t343, ji17, wrap64 (x7_1 + t348)⟩ : S42) [.int .i64 (wrap64 (1 + t346)), .int .i64 x8_1, .int .i64 t328, .string (rdOf ByteArray.empty y334 (ji12)), .int .i64 t330, .int .i64 t331, .int .i64 t343, .int .i64 ji17, .int .i64 (wrap64 (x7_1 + t348))] (fun _ => True) (fun _ => False) rfl rfl ?aP (fun _ hk => hk.elim) ?aF ?aO (Below.refl _ _) ?aS ?aL ?_
       (case aP => exact k42_mkM _ _ _ (⟨wrap64 (1 + t346), x8_1, (⟨t328, rdOf ByteArray.empty y334 (ji12), t330, t331⟩ : S40), t343, ji17, wrap64 (x7_1 + t348)⟩ : S42))
       (case aF => exact (fun _ _ => trivial))
       (case aO => exact (kr HO_5.out))
       (case aS => exact (keep_size (w := w) (g := g) (row := none) (spec_l20Results.s3 HK.out GW333.out)))
       (case aL => have := LMc20.out; omega)
       intro v351 w36 ho hb hg hat
       rw [← Ny350.out] at ho
       have n0_ := Aside0.mk (Kd.R_over' (kr HO_6.out) (Kd.R_typed (kr HO_5.out)) (by decide) hg)
       have n1_ := Aside0.mk (IsS147.grown (spec_l20Results.s4 HI0.out NB0_333.out) hg (IsS147.own_ne HI0.out HO_5.out (by decide)))
       have n2_ := Aside0.mk (blk_grown (g := gb333) (o := .cells #[.int .i64 t328, .string (rdOf ByteArray.empty y334 (ji12)), .int .i64 t330, .int .i64 t331] 40 (0, 0)) (kb BK333.out) hg (Kd.R_ne HO_5.out BK333.out (by decide)))
       have n3_ := Aside0.mk (Kd.R_over' (kr HO336.out) (Kd.R_typed (kr HO_5.out)) (by decide) hg)
       have n4_ := Aside0.mk (Kd.R_over' (kr HO342.out) (Kd.R_typed (kr HO_5.out)) (by decide) hg)
       have n5_ := Aside0.mk (below_weaken (spec_l20Results.s5 HB.out HI0.out GE333.out) HL.out hb)
       have n6_ := Aside0.mk (KeepBut.trans (spec_l20Results.s3 HK.out GW333.out) (KeepBut.of_grown hg g) (Kd.R_base2 HO_5.out))
       have n7_ := Aside0.mk (ho)
       clear HO_6
       clear HI0
       clear BK333
       clear HO336
       clear HO342
       clear HB
       clear HK
       clear HO_5
       have HO_6 := n0_
       have HI0 := n1_
       have BK333 := n2_
       have HO336 := n3_
       have HO342 := n4_
       have HB := n5_
       have HK := n6_
       have HO352 := n7_
       clear n0_ n1_ n2_ n3_ n4_ n5_ n6_ n7_
       clear ho hb hg hat
       refine hK.out _ _ ⟨(blk_cell BK333.out 0).trans rfl, (blk_cell BK333.out 1).trans rfl, (blk_cell BK333.out 2).trans rfl, (blk_cell BK333.out 3).trans rfl⟩ (fun hHeld => ?_)
       clear hK K
       refine norm_ (a' := ?_) ?_ ?_
       rotate_left
       ·
        show Act.put _ (some 58) _ = _
        simp only [Act.put, List.setIfInBounds_toArray, List.set_cons_zero, List.set_cons_succ, i64_w, i32_w]
        rfl
       refine pur (i := 15) (N := some 5) spec_l20Results.m16 rfl rfl HT_.out ?_
       refine done_ (done_of HT_.out (by kernel_rfl)) ?_
       try go_wp2
       go_roundg k1
       case measure => have := HK1.out; omega
       case rel => exact ⟨(y350), (t340), (wrap64 (x7_1 + 1)), (wrap64 (x8_1 - 1)), (t349), (by first | rfl | (simp; done) | (simp [*]; done) | (simp [bne_nil_, beq_nil_]; done)), (by first | rfl | (simp; done) | (simp [*]; done) | (simp [bne_nil_, beq_nil_]; done)), H', ⟨by have := HK1.out; omega⟩, ⟨by (with_reducible repeat (first | apply Kd.R_alloc | apply Kd.R_drewN | apply Kd.R_drew)); exact HO352.out⟩, ⟨by (with_reducible repeat (first | apply Kd.R_alloc | apply Kd.R_drewN | apply Kd.R_drew)); exact Kd.R_mono HO342.out (fun _ hk => trivial)⟩, ⟨spec_l20Results.s4 HI0.out NB0_333.out⟩, ⟨spec_l20Results.s3 HK.out GW333.out⟩, ⟨spec_l20Results.s5 HB.out HI0.out GE333.out⟩⟩
      ·
       rw [if_neg c20] at H
       exact absurd H (by simp)
     ·
      rw [if_neg c14] at H
      exact absurd H (by simp)
    ·
     rw [if_neg c13] at H
     exact absurd H (by simp)
   ·
    rw [if_neg c9] at H
    have c9b0 : decide (0 < x8_1) = false := decide_eq_false c9
    clear c9
    have HC37 := Aside0.mk H
    clear H
    go_upto_region 14 with (fail)
    go_cut [68] (fun v68 wc => ∃ (kq : Nat) (x68_36 : Bool) (x1001_36 : Int), v68 = .bool x68_36 ∧ Aside0 (spec_l20Results.j1 kq a1 x5_1 x68_36 s0_0 x1001_36 = some (r1, r2)) ∧ Aside0 (kq ≤ k1) ∧ Aside0 (Kd.R k42 42 wc w.heap.size (fun _ => True) u5 x5_1) ∧ Aside0 (IsS147 w0 wc g s0_0 x1001_36) ∧ Aside0 (KeepBut w wc g none) ∧ Aside0 (Below w0.heap.size w0 wc))
    case first =>
     have H := HC37.out
     clear HC37
     by_cases c38 : (x5_1.length : Int) > 1
     ·
      rw [if_pos c38] at H
      have c38b0 : decide (1 < (x5_1.length : Int)) = true := decide_eq_true c38
      have c38b1 : decide (1 < x5_1.length) = true := decide_eq_true (by omega)
      clear c38
      (first | rw [c38b0] | (simp only [i64_w, i32_w]; rw [c38b0]) | skip)
      replace H := Option.bind_eq_some_iff.mp H
      obtain ⟨⟨t353, t354⟩, A390, H⟩ := H
      replace H : (spec_l20Results.j1 k1 a1 x5_1 (t353 == 0) s0_0 t354) = some (r1, r2) := H
      have A39 := Aside0.mk A390
      clear A390
      have H' := Aside0.mk H
      clear H
      obtain ⟨Ao40, co40, eo40⟩ := Kd.R_slice HO_5.out
      subst eo40
      go_wp2_with (first | (go_at_call 78; (with_reducible refine (spec_l20Rd_pick.calls k1 g s0_0 x1001_1 2 t353 t354 w0 _ ?side1 ?side2 A39.out).mono ?_); (case side1 => exact spec_l20Results.s1 HI0.out); (case side2 => exact spec_l20Results.s2 HB.out HI0.out); rintro e w41 ⟨rfl, hi, hb, hk⟩; have n0_ := Aside0.mk (Kd.R_mono (Kd.R_keep (IsS147.apart (show IsS147 w0 _ g s0_0 x1001_1 from spec_l20Results.s1 HI0.out) (kr HO_5.out) (by decide)) hk (fun _ h => h.2)) (fun _ h => h.1)); have n1_ := Aside0.mk (Kd.R_mono (Kd.R_keep (IsS147.apart (show IsS147 w0 _ g s0_0 x1001_1 from spec_l20Results.s1 HI0.out) (kr HO_6.out) (by decide)) hk (fun _ h => h.2)) (fun _ h => h.1)); have n2_ := Aside0.mk (KeepBut.trans (spec_l20Results.s0 HK.out) hk (.inl rfl)); have n3_ := Aside0.mk (hb); have n4_ := Aside0.mk (hi); clear HO_5; clear HO_6; clear HK; clear HB; clear HI0; have HO_5 := n0_; have HO_6 := n1_; have HK := n2_; have HB := n3_; have HI0 := n4_; clear n0_ n1_ n2_ n3_ n4_; (try clear hb); (try clear hb2); (try clear hk); (try clear hi)))
      go_meet
      case rel => exact ⟨_, ((t353 == 0)), (t354), (by first | rfl | (simp; done) | (simp [*]; done) | (simp [bne_nil_, beq_nil_]; done)), H', ⟨by have := HK1.out; first | omega | exact Nat.le_refl _⟩, ⟨by (with_reducible repeat (first | apply Kd.R_alloc | apply Kd.R_drewN | apply Kd.R_drew)); exact HO_5.out⟩, ⟨spec_l20Results.s1 HI0.out⟩, ⟨spec_l20Results.s0 HK.out⟩, ⟨spec_l20Results.s2 HB.out HI0.out⟩⟩
     ·
      rw [if_neg c38] at H
      have c38b0 : decide (1 < (x5_1.length : Int)) = false := decide_eq_false c38
      have c38b1 : decide (1 < x5_1.length) = false := decide_eq_false (by omega)
      clear c38
      (first | rw [c38b0] | (simp only [i64_w, i32_w]; rw [c38b0]) | skip)
      have H' := Aside0.mk H
      clear H
      obtain ⟨Ao42, co42, eo42⟩ := Kd.R_slice HO_5.out
      subst eo42
      go_wp2
      go_meet
      case rel => exact ⟨_, (false), (x1001_1), (by first | rfl | (simp; done) | (simp [*]; done) | (simp [bne_nil_, beq_nil_]; done)), H', ⟨by have := HK1.out; first | omega | exact Nat.le_refl _⟩, ⟨by (with_reducible repeat (first | apply Kd.R_alloc | apply Kd.R_drewN | apply Kd.R_drew)); exact HO_5.out⟩, ⟨spec_l20Results.s1 HI0.out⟩, ⟨spec_l20Results.s0 HK.out⟩, ⟨spec_l20Results.s2 HB.out HI0.out⟩⟩
    case rest =>
     clear HC37
     try clear c1
     try clear c2
     try clear p2
     try clear c3
     try clear p3
     try clear q3
     try clear hx3
     try clear p6
     try clear c7
     try clear c9
     try clear c9b0
     try clear c12
     try clear c13
     try clear c13b0
     try clear c14
     try clear c14b0
     try clear c20
     try clear c23
     try clear p33
     try clear q33
     try clear hx33
     try clear c38
     try clear c38b0
     try clear c38b1
     try clear hcz24_0
     try clear hcz24_1
     try clear hcz24_2
     try clear hcz24_3
     try clear hcz29_0
     try clear hcz29_1
     try clear hcz29_2
     try clear hcz29_3
     try clear hfz24_0
     try clear hfz24_1
     try clear hfz24_2
     try clear hfz24_3
     try clear hfz29_0
     try clear hfz29_1
     try clear hfz29_2
     try clear hfz29_3
     try clear hx339_0
     try clear p2
     try clear p339
     try clear q339
     obtain ⟨kq, x68_36, x1001_36, rfl, HA, HJ36, HO_5, HI0, HK, HB⟩ := hcut
     cases kq with
     | zero => exact absurd HA.out (by simp [spec_l20Results.j1])
     | succ kj36 =>
      have H := HA.out
      clear HA
      simp only [spec_l20Results.j1] at H
      have HC43 := Aside0.mk H
      clear H
      go_upto_if 68 with (fail)
      go_cut [] (fun wc => ∃ (kq : Nat) (x5_42 : List (S42)) (x1001_42 : Int), Aside0 (spec_l20Results.j2 kq a1 x5_42 s0_0 x1001_42 = some (r1, r2)) ∧ Aside0 (kq ≤ kj36) ∧ Aside0 (Kd.R k42 42 wc w.heap.size (fun _ => True) u5 x5_42) ∧ Aside0 (IsS147 w0 wc g s0_0 x1001_42) ∧ Aside0 (KeepBut w wc g none) ∧ Aside0 (Below w0.heap.size w0 wc))
      case first =>
       have H := HC43.out
       clear HC43
       by_cases c44 : x68_36 = true
       ·
        subst c44
        have H1 : ((spec_l20Rd_pick.f kj36 s0_0 x1001_36 (x5_1.length : Int)).bind fun bt355 => (if 0 < (x5_1.length : Int) then (if 0 ≤ bt355.1 then (if bt355.1 < (x5_1.length : Int) then (spec_l20Results.j2 kj36 a1 ((x5_1.set (0 : Int).toNat (⟨(rd_T42 x5_1 bt355.1).f0, (rd_T42 x5_1 bt355.1).f1, (⟨(rd_T42 x5_1 bt355.1).f2.f0, (rd_T42 x5_1 bt355.1).f2.f1, (rd_T42 x5_1 bt355.1).f2.f2, (rd_T42 x5_1 bt355.1).f2.f3⟩ : S40), (rd_T42 x5_1 bt355.1).f3, (rd_T42 x5_1 bt355.1).f4, (rd_T42 x5_1 bt355.1).f5⟩ : S42)).set (bt355.1 : Int).toNat (⟨(rd_T42 x5_1 0).f0, (rd_T42 x5_1 0).f1, (⟨(rd_T42 x5_1 0).f2.f0, (rd_T42 x5_1 0).f2.f1, (rd_T42 x5_1 0).f2.f2, (rd_T42 x5_1 0).f2.f3⟩ : S40), (rd_T42 x5_1 0).f3, (rd_T42 x5_1 0).f4, (rd_T42 x5_1 0).f5⟩ : S42)) s0_0 bt355.2) else (none)) else (none)) else (none))) = some (r1, r2) := by rw [if_pos rfl] at H; exact H
        clear H
        have H := H1
        clear H1
        replace H := Option.bind_eq_some_iff.mp H
        obtain ⟨⟨t355, t356⟩, A450, H⟩ := H
        replace H : (if 0 < (x5_1.length : Int) then (if 0 ≤ t355 then (if t355 < (x5_1.length : Int) then (spec_l20Results.j2 kj36 a1 ((x5_1.set (0 : Int).toNat (⟨(rd_T42 x5_1 t355).f0, (rd_T42 x5_1 t355).f1, (⟨(rd_T42 x5_1 t355).f2.f0, (rd_T42 x5_1 t355).f2.f1, (rd_T42 x5_1 t355).f2.f2, (rd_T42 x5_1 t355).f2.f3⟩ : S40), (rd_T42 x5_1 t355).f3, (rd_T42 x5_1 t355).f4, (rd_T42 x5_1 t355).f5⟩ : S42)).set (t355 : Int).toNat (⟨(rd_T42 x5_1 0).f0, (rd_T42 x5_1 0).f1, (⟨(rd_T42 x5_1 0).f2.f0, (rd_T42 x5_1 0).f2.f1, (rd_T42 x5_1 0).f2.f2, (rd_T42 x5_1 0).f2.f3⟩ : S40), (rd_T42 x5_1 0).f3, (rd_T42 x5_1 0).f4, (rd_T42 x5_1 0).f5⟩ : S42)) s0_0 t356) else (none)) else (none)) else (none)) = some (r1, r2) := H
        have A45 := Aside0.mk A450
        clear A450
        by_cases c46 : 0 < (x5_1.length : Int)
        ·
         rw [if_pos c46] at H
         have c46b0 : decide (0 < (x5_1.length : Int)) = true := decide_eq_true c46
         have c46b1 : decide (0 < x5_1.length) = true := decide_eq_true (by omega)
         clear c46
         (first | rw [c46b0] | (simp only [i64_w, i32_w]; rw [c46b0]) | skip)
         by_cases c47 : 0 ≤ t355
         ·
          rw [if_pos c47] at H
          have c47b0 : decide (0 ≤ t355) = true := decide_eq_true c47
          clear c47
          by_cases c48 : t355 < (x5_1.length : Int)
          ·
           rw [if_pos c48] at H
           have c48b0 : decide (t355 < (x5_1.length : Int)) = true := decide_eq_true c48
           clear c48
           obtain ⟨y360, hy360⟩ : ∃ y_ : List (S42), y_ = (x5_1.set (0 : Int).toNat (⟨(rd_T42 x5_1 t355).f0, (rd_T42 x5_1 t355).f1, (⟨(rd_T42 x5_1 t355).f2.f0, (rd_T42 x5_1 t355).f2.f1, (rd_T42 x5_1 t355).f2.f2, (rd_T42 x5_1 t355).f2.f3⟩ : S40), (rd_T42 x5_1 t355).f3, (rd_T42 x5_1 t355).f4, (rd_T42 x5_1 t355).f5⟩ : S42)) := ⟨_, rfl⟩
           replace H : (spec_l20Results.j2 kj36 a1 (y360.set (t355 : Int).toNat (⟨(rd_T42 x5_1 0).f0, (rd_T42 x5_1 0).f1, (⟨(rd_T42 x5_1 0).f2.f0, (rd_T42 x5_1 0).f2.f1, (rd_T42 x5_1 0).f2.f2, (rd_T42 x5_1 0).f2.f3⟩ : S40), (rd_T42 x5_1 0).f3, (rd_T42 x5_1 0).f4, (rd_T42 x5_1 0).f5⟩ : S42)) s0_0 t356) = some (r1, r2) := by first | (rw [hy360]; with_reducible exact H) | (have H2_ := (Option.bind_some _ _).symm.trans H; rw [hy360]; with_reducible exact H2_) | (have H2_ := (Option.bind_some _ _).symm.trans H; with_reducible exact H2_) | with_reducible exact H | (rw [hy360]; exact H) | exact H
           have Ny360 := Aside0.mk hy360
           clear hy360
           obtain ⟨y361, hy361⟩ : ∃ y_ : List (S42), y_ = (y360.set (t355 : Int).toNat (⟨(rd_T42 x5_1 0).f0, (rd_T42 x5_1 0).f1, (⟨(rd_T42 x5_1 0).f2.f0, (rd_T42 x5_1 0).f2.f1, (rd_T42 x5_1 0).f2.f2, (rd_T42 x5_1 0).f2.f3⟩ : S40), (rd_T42 x5_1 0).f3, (rd_T42 x5_1 0).f4, (rd_T42 x5_1 0).f5⟩ : S42)) := ⟨_, rfl⟩
           replace H : (spec_l20Results.j2 kj36 a1 y361 s0_0 t356) = some (r1, r2) := by first | (rw [hy361]; with_reducible exact H) | (have H2_ := (Option.bind_some _ _).symm.trans H; rw [hy361]; with_reducible exact H2_) | (have H2_ := (Option.bind_some _ _).symm.trans H; with_reducible exact H2_) | with_reducible exact H | (rw [hy361]; exact H) | exact H
           have Ny361 := Aside0.mk hy361
           clear hy361
           have H' := Aside0.mk H
           clear H
           obtain ⟨Ao51, co51, eo51⟩ := Kd.R_slice HO_5.out
           subst eo51
           go_wp2_with (first | ((with_reducible refine gate_callee (f := 78) rfl ?_); refine gsl (some 72) rfl Try.func78 #[.pointer (some ⟨g, 0, none⟩), .int .i64 (x5_1.length : Int)] rfl ?_; (with_reducible refine (spec_l20Rd_pick.calls kj36 g s0_0 x1001_36 (x5_1.length : Int) t355 t356 w0 _ ?side1 ?side2 A45.out).mono ?_); (case side1 => exact spec_l20Results.s1 HI0.out); (case side2 => exact spec_l20Results.s2 HB.out HI0.out); rintro e w52 ⟨rfl, hi, hb, hk⟩; refine ⟨_, rfl, ?_⟩; have n0_ := Aside0.mk (Kd.R_mono (Kd.R_keep (IsS147.apart (show IsS147 w0 _ g s0_0 x1001_36 from spec_l20Results.s1 HI0.out) (kr HO_5.out) (by decide)) hk (fun _ h => h.2)) (fun _ h => h.1)); have n1_ := Aside0.mk (KeepBut.trans (spec_l20Results.s0 HK.out) hk (.inl rfl)); have n2_ := Aside0.mk (hb); have n3_ := Aside0.mk (hi); clear HO_5; clear HK; clear HB; clear HI0; have HO_5 := n0_; have HK := n1_; have HB := n2_; have HI0 := n3_; clear n0_ n1_ n2_ n3_; (try clear hb); (try clear hb2); (try clear hk); (try clear hi); have p357 : 0 ≤ (0 : Int) := (by omega); have q357 : 0 < (x5_1.length : Int) := of_decide_eq_true (by first | (with_reducible assumption) | assumption); obtain ⟨ad357, e357, hx357_0, hx357_1, hx357_2, hx357_3, hx357_4, hx357_5, hx357_6, hx357_7, hx357_8⟩ := at_T42 (Kd.R_reads' HO_5.out).2.2 0 p357 q357; cases e357; have qi357 : (0 < x5_1.length) = True := eq_true (by omega); (try rw [show ((0 : Int)).toNat = 0 from rfl] at hx357_0); (try rw [show 0 * 9 = 0 from rfl] at hx357_0); (try rw [Addr.add_zero'] at hx357_0); (try rw [show ((0 : Int)).toNat = 0 from rfl] at hx357_1); (try rw [show 0 * 9 = 0 from rfl] at hx357_1); (try rw [Addr.add_zero'] at hx357_1); (try rw [show ((0 : Int)).toNat = 0 from rfl] at hx357_2); (try rw [show 0 * 9 = 0 from rfl] at hx357_2); (try rw [Addr.add_zero'] at hx357_2); (try rw [show ((0 : Int)).toNat = 0 from rfl] at hx357_3); (try rw [show 0 * 9 = 0 from rfl] at hx357_3); (try rw [Addr.add_zero'] at hx357_3); (try rw [show ((0 : Int)).toNat = 0 from rfl] at hx357_4); (try rw [show 0 * 9 = 0 from rfl] at hx357_4); (try rw [Addr.add_zero'] at hx357_4); (try rw [show ((0 : Int)).toNat = 0 from rfl] at hx357_5); (try rw [show 0 * 9 = 0 from rfl] at hx357_5); (try rw [Addr.add_zero'] at hx357_5); (try rw [show ((0 : Int)).toNat = 0 from rfl] at hx357_6); (try rw [show 0 * 9 = 0 from rfl] at hx357_6); (try rw [Addr.add_zero'] at hx357_6); (try rw [show ((0 : Int)).toNat = 0 from rfl] at hx357_7); (try rw [show 0 * 9 = 0 from rfl] at hx357_7); (try rw [Addr.add_zero'] at hx357_7); (try rw [show ((0 : Int)).toNat = 0 from rfl] at hx357_8); (try rw [show 0 * 9 = 0 from rfl] at hx357_8); (try rw [Addr.add_zero'] at hx357_8); replace p357 := eq_true p357; replace q357 := eq_true q357) | ((with_reducible refine gate_dst (N := 14) rfl ?_); refine bxe (N := 14) (cs := #[.int .i64 0, .int .i64 0, .int .i64 0, .string (⟨#[]⟩ : ByteArray), .int .i64 0, .int .i64 0, .int .i64 0, .int .i64 0, .int .i64 0]) (t := 42) ?_; intro gb358 hg w53 hbox hb; have n0_ := Aside0.mk (Kd.R_below (Kd.R_elderB (kr HO_5.out) gb358 (Nat.le_of_eq hg.symm)) hb); have n1_ := Aside0.mk (IsS147.below (spec_l20Results.s1 HI0.out) hb); have n2_ := Aside0.mk (KeepBut.trans (spec_l20Results.s0 HK.out) (KeepBut.of_below hb g none) (.inl rfl)); have n3_ := Aside0.mk (below_step (spec_l20Results.s2 HB.out HI0.out) hb); have n4_ := Aside0.mk (hbox); have n5_ := Aside0.mk ((by rw [hg]; exact (keep_size (w := w) (g := g) (row := none) (spec_l20Results.s0 HK.out)) : w.heap.size ≤ gb358)); have n6_ := Aside0.mk ((Nat.le_trans HW0.out (by rw [hg]; exact (keep_size (w := w) (g := g) (row := none) (spec_l20Results.s0 HK.out)) : w.heap.size ≤ gb358) : w0.heap.size ≤ gb358)); have n7_ := Aside0.mk ((by rw [hg]; exact Nat.ne_of_lt (IsS147.lt (show IsS147 w0 _ g s0_0 t356 from spec_l20Results.s1 HI0.out)) : g ≠ gb358)); have n8_ := Aside0.mk ((by rw [hg]; exact Nat.ne_of_gt (IsS147.lt (show IsS147 w0 _ g s0_0 t356 from spec_l20Results.s1 HI0.out)) : gb358 ≠ g)); clear HO_5; clear HI0; clear HK; clear HB; have HO_5 := n0_; have HI0 := n1_; have HK := n2_; have HB := n3_; have BK358 := n4_; have GW358 := n5_; have GE358 := n6_; have NB0_358 := n7_; have NB358_0 := n8_; clear n0_ n1_ n2_ n3_ n4_ n5_ n6_ n7_ n8_; clear hb hbox hg; have hnb54 := NB358_0.out; have hnc54 := NB0_358.out; obtain ⟨hcz55_0, hcz55_1, hcz55_2, hcz55_3, hcz55_4, hcz55_5, hcz55_6, hcz55_7, hcz55_8, hfz55_0, hfz55_1, hfz55_2, hfz55_3, hfz55_4, hfz55_5, hfz55_6, hfz55_7, hfz55_8⟩ := cl9 BK358) | ((with_reducible refine gate_store (t := 42) (p := 14) rfl ?_); refine store_event (t := 42) (p := 14) (v := ?vo_w56) (w1 := (((((((((w53.setCell ⟨gb358, 0, none⟩ (.int .i64 ((rd_T42 x5_1 0).f0))).setCell ⟨gb358, 1, none⟩ (.int .i64 ((rd_T42 x5_1 0).f1))).setCell ⟨gb358, 2, none⟩ (.int .i64 ((rd_T42 x5_1 0).f2.f0))).setCell ⟨gb358, 3, none⟩ (.string ((rd_T42 x5_1 0).f2.f1))).setCell ⟨gb358, 4, none⟩ (.int .i64 ((rd_T42 x5_1 0).f2.f2))).setCell ⟨gb358, 5, none⟩ (.int .i64 ((rd_T42 x5_1 0).f2.f3))).setCell ⟨gb358, 6, none⟩ (.int .i64 ((rd_T42 x5_1 0).f3))).setCell ⟨gb358, 7, none⟩ (.int .i64 ((rd_T42 x5_1 0).f4))).setCell ⟨gb358, 8, none⟩ (.int .i64 ((rd_T42 x5_1 0).f5)))) ?hg ?ho ?hn ?hr ?_; (case ho => rfl); (case hg => rfl); (case hn => rfl); (case hr => first | (go_simp; done) | (go_simp; rfl)); intro w56 hw; have n0_ : Aside0 (Kd.R k42 42 w56 w.heap.size (fun k_ => k_ ≠ gb358) (.slice (some ad357) x5_1.length co51) x5_1) := ⟨(by rw [hw]; exact (by (with_reducible repeat (first | apply Kd.R_alloc | apply Kd.R_drewN | apply Kd.R_drew)); exact Kd.R_mono (Kd.R_far (p := ⟨gb358, 8, none⟩) (Kd.R_far (p := ⟨gb358, 7, none⟩) (Kd.R_far (p := ⟨gb358, 6, none⟩) (Kd.R_far (p := ⟨gb358, 5, none⟩) (Kd.R_far (p := ⟨gb358, 4, none⟩) (Kd.R_far (p := ⟨gb358, 3, none⟩) (Kd.R_far (p := ⟨gb358, 2, none⟩) (Kd.R_far (p := ⟨gb358, 1, none⟩) (Kd.R_far (p := ⟨gb358, 0, none⟩) (Kd.R_mono HO_5.out (fun k_ hk => (⟨hk, hk.2⟩ : _ ∧ k_ ≠ gb358))) (fun _ hk => hk.2) (.int .i64 ((rd_T42 x5_1 0).f0))) (fun _ hk => hk.2) (.int .i64 ((rd_T42 x5_1 0).f1))) (fun _ hk => hk.2) (.int .i64 ((rd_T42 x5_1 0).f2.f0))) (fun _ hk => hk.2) (.string ((rd_T42 x5_1 0).f2.f1))) (fun _ hk => hk.2) (.int .i64 ((rd_T42 x5_1 0).f2.f2))) (fun _ hk => hk.2) (.int .i64 ((rd_T42 x5_1 0).f2.f3))) (fun _ hk => hk.2) (.int .i64 ((rd_T42 x5_1 0).f3))) (fun _ hk => hk.2) (.int .i64 ((rd_T42 x5_1 0).f4))) (fun _ hk => hk.2) (.int .i64 ((rd_T42 x5_1 0).f5))) (fun _ hk => hk.1.2)))⟩; have n1_ : Aside0 (w56.heap[gb358]? = some (.cells #[.int .i64 ((rd_T42 x5_1 0).f0), .int .i64 ((rd_T42 x5_1 0).f1), .int .i64 ((rd_T42 x5_1 0).f2.f0), .string ((rd_T42 x5_1 0).f2.f1), .int .i64 ((rd_T42 x5_1 0).f2.f2), .int .i64 ((rd_T42 x5_1 0).f2.f3), .int .i64 ((rd_T42 x5_1 0).f3), .int .i64 ((rd_T42 x5_1 0).f4), .int .i64 ((rd_T42 x5_1 0).f5)] 42 (0, 0))) := ⟨(by rw [hw]; exact (by (with_reducible repeat (first | refine blk_drewN ?_ _ | refine blk_drew ?_ | refine blk_alloc ?_ _)); refine blk_put (cs := #[.int .i64 ((rd_T42 x5_1 0).f0), .int .i64 ((rd_T42 x5_1 0).f1), .int .i64 ((rd_T42 x5_1 0).f2.f0), .string ((rd_T42 x5_1 0).f2.f1), .int .i64 ((rd_T42 x5_1 0).f2.f2), .int .i64 ((rd_T42 x5_1 0).f2.f3), .int .i64 ((rd_T42 x5_1 0).f3), .int .i64 ((rd_T42 x5_1 0).f4), .int .i64 0]) ?_ 8 _ rfl; (with_reducible repeat (first | refine blk_drewN ?_ _ | refine blk_drew ?_ | refine blk_alloc ?_ _)); refine blk_put (cs := #[.int .i64 ((rd_T42 x5_1 0).f0), .int .i64 ((rd_T42 x5_1 0).f1), .int .i64 ((rd_T42 x5_1 0).f2.f0), .string ((rd_T42 x5_1 0).f2.f1), .int .i64 ((rd_T42 x5_1 0).f2.f2), .int .i64 ((rd_T42 x5_1 0).f2.f3), .int .i64 ((rd_T42 x5_1 0).f3), .int .i64 0, .int .i64 0]) ?_ 7 _ rfl; (with_reducible repeat (first | refine blk_drewN ?_ _ | refine blk_drew ?_ | refine blk_alloc ?_ _)); refine blk_put (cs := #[.int .i64 ((rd_T42 x5_1 0).f0), .int .i64 ((rd_T42 x5_1 0).f1), .int .i64 ((rd_T42 x5_1 0).f2.f0), .string ((rd_T42 x5_1 0).f2.f1), .int .i64 ((rd_T42 x5_1 0).f2.f2), .int .i64 ((rd_T42 x5_1 0).f2.f3), .int .i64 0, .int .i64 0, .int .i64 0]) ?_ 6 _ rfl; (with_reducible repeat (first | refine blk_drewN ?_ _ | refine blk_drew ?_ | refine blk_alloc ?_ _)); refine blk_put (cs := #[.int .i64 ((rd_T42 x5_1 0).f0), .int .i64 ((rd_T42 x5_1 0).f1), .int .i64 ((rd_T42 x5_1 0).f2.f0), .string ((rd_T42 x5_1 0).f2.f1), .int .i64 ((rd_T42 x5_1 0).f2.f2), .int .i64 0, .int .i64 0, .int .i64 0, .int .i64 0]) ?_ 5 _ rfl; (with_reducible repeat (first | refine blk_drewN ?_ _ | refine blk_drew ?_ | refine blk_alloc ?_ _)); refine blk_put (cs := #[.int .i64 ((rd_T42 x5_1 0).f0), .int .i64 ((rd_T42 x5_1 0).f1), .int .i64 ((rd_T42 x5_1 0).f2.f0), .string ((rd_T42 x5_1 0).f2.f1), .int .i64 0, .int .i64 0, .int .i64 0, .int .i64 0, .int .i64 0]) ?_ 4 _ rfl; (with_reducible repeat (first | refine blk_drewN ?_ _ | refine blk_drew ?_ | refine blk_alloc ?_ _)); refine blk_put (cs := #[.int .i64 ((rd_T42 x5_1 0).f0), .int .i64 ((rd_T42 x5_1 0).f1), .int .i64 ((rd_T42 x5_1 0).f2.f0), .string (⟨#[]⟩ : ByteArray), .int .i64 0, .int .i64 0, .int .i64 0, .int .i64 0, .int .i64 0]) ?_ 3 _ rfl; (with_reducible repeat (first | refine blk_drewN ?_ _ | refine blk_drew ?_ | refine blk_alloc ?_ _)); refine blk_put (cs := #[.int .i64 ((rd_T42 x5_1 0).f0), .int .i64 ((rd_T42 x5_1 0).f1), .int .i64 0, .string (⟨#[]⟩ : ByteArray), .int .i64 0, .int .i64 0, .int .i64 0, .int .i64 0, .int .i64 0]) ?_ 2 _ rfl; (with_reducible repeat (first | refine blk_drewN ?_ _ | refine blk_drew ?_ | refine blk_alloc ?_ _)); refine blk_put (cs := #[.int .i64 ((rd_T42 x5_1 0).f0), .int .i64 0, .int .i64 0, .string (⟨#[]⟩ : ByteArray), .int .i64 0, .int .i64 0, .int .i64 0, .int .i64 0, .int .i64 0]) ?_ 1 _ rfl; (with_reducible repeat (first | refine blk_drewN ?_ _ | refine blk_drew ?_ | refine blk_alloc ?_ _)); refine blk_put (cs := #[.int .i64 0, .int .i64 0, .int .i64 0, .string (⟨#[]⟩ : ByteArray), .int .i64 0, .int .i64 0, .int .i64 0, .int .i64 0, .int .i64 0]) ?_ 0 _ rfl; (with_reducible repeat (first | refine blk_drewN ?_ _ | refine blk_drew ?_ | refine blk_alloc ?_ _)); exact BK358.out))⟩; have n2_ : Aside0 (IsS147 w0 w56 g s0_0 t356) := ⟨(by rw [hw]; exact (spec_l20Results.s4 HI0.out NB0_358.out))⟩; have n3_ : Aside0 (KeepBut w w56 g none) := ⟨(by rw [hw]; exact (spec_l20Results.s3 HK.out GW358.out))⟩; have n4_ : Aside0 (Below w0.heap.size w0 w56) := ⟨(by rw [hw]; exact (spec_l20Results.s5 HB.out HI0.out GE358.out))⟩; clear hw; clear HO_5; clear BK358; clear HI0; clear HK; clear HB; have HO_5 := n0_; have BK358 := n1_; have HI0 := n2_; have HK := n3_; have HB := n4_; clear n0_ n1_ n2_ n3_ n4_; have p359 : 0 ≤ (t355 : Int) := of_decide_eq_true (by first | (with_reducible assumption) | assumption); have q359 : t355 < (x5_1.length : Int) := of_decide_eq_true (by first | (with_reducible assumption) | assumption); obtain ⟨ad359, e359, hx359_0, hx359_1, hx359_2, hx359_3, hx359_4, hx359_5, hx359_6, hx359_7, hx359_8⟩ := at_T42 (Kd.R_reads' HO_5.out).2.2 t355 p359 q359; obtain rfl : ad357 = ad359 := (by injection e359); replace p359 := eq_true p359; replace q359 := eq_true q359; have p49 : 0 ≤ (0 : Int) := (by omega); have q49 : (0 : Int) < ((x5_1.length : Int) : Int) := of_decide_eq_true (by first | (with_reducible assumption) | assumption); have qi49 : (0 < x5_1.length) = True := eq_true (by omega); obtain ⟨go49, co49, eo49, gb49, gl49, cl49, HG49⟩ := Kd.R_form HO_5.out (by omega); (first | cases eo49 | (injection eo49 with ea_ en_ ec_; (first | subst ea_ | (injection ea_ with ea_; subst ea_)); subst ec_; clear en_)); have GB49 := Aside0.mk gb49; have GG49 := Aside0.mk HG49; clear gb49 gl49 HG49; (first | simp only [add_plain] at hx357_0 | skip); (first | simp only [add_plain] at hx357_1 | skip); (first | simp only [add_plain] at hx357_2 | skip); (first | simp only [add_plain] at hx357_3 | skip); (first | simp only [add_plain] at hx357_4 | skip); (first | simp only [add_plain] at hx357_5 | skip); (first | simp only [add_plain] at hx357_6 | skip); (first | simp only [add_plain] at hx357_7 | skip); (first | simp only [add_plain] at hx357_8 | skip); (first | simp only [add_plain] at hx359_0 | skip); (first | simp only [add_plain] at hx359_1 | skip); (first | simp only [add_plain] at hx359_2 | skip); (first | simp only [add_plain] at hx359_3 | skip); (first | simp only [add_plain] at hx359_4 | skip); (first | simp only [add_plain] at hx359_5 | skip); (first | simp only [add_plain] at hx359_6 | skip); (first | simp only [add_plain] at hx359_7 | skip); (first | simp only [add_plain] at hx359_8 | skip); obtain ⟨ce49, hcl49, hM49, hcc49, hfr49⟩ := Kd.R_elem HO_5.out z42 (0 : Int) p49 q49; obtain rfl := k42_openM hM49; have hx49_0 : w56.cell? ⟨go49, (0 : Int).toNat * 9, none⟩ = some (.int .i64 ((rd_T42 x5_1 0).f0)) := hcc49 0 _ rfl; have hx49_1 : w56.cell? ⟨go49, (0 : Int).toNat * 9 + 1, none⟩ = some (.int .i64 ((rd_T42 x5_1 0).f1)) := hcc49 1 _ rfl; have hx49_2 : w56.cell? ⟨go49, (0 : Int).toNat * 9 + 2, none⟩ = some (.int .i64 ((rd_T42 x5_1 0).f2.f0)) := hcc49 2 _ rfl; have hx49_3 : w56.cell? ⟨go49, (0 : Int).toNat * 9 + 3, none⟩ = some (.string ((rd_T42 x5_1 0).f2.f1)) := hcc49 3 _ rfl; have hx49_4 : w56.cell? ⟨go49, (0 : Int).toNat * 9 + 4, none⟩ = some (.int .i64 ((rd_T42 x5_1 0).f2.f2)) := hcc49 4 _ rfl; have hx49_5 : w56.cell? ⟨go49, (0 : Int).toNat * 9 + 5, none⟩ = some (.int .i64 ((rd_T42 x5_1 0).f2.f3)) := hcc49 5 _ rfl; have hx49_6 : w56.cell? ⟨go49, (0 : Int).toNat * 9 + 6, none⟩ = some (.int .i64 ((rd_T42 x5_1 0).f3)) := hcc49 6 _ rfl; have hx49_7 : w56.cell? ⟨go49, (0 : Int).toNat * 9 + 7, none⟩ = some (.int .i64 ((rd_T42 x5_1 0).f4)) := hcc49 7 _ rfl; have hx49_8 : w56.cell? ⟨go49, (0 : Int).toNat * 9 + 8, none⟩ = some (.int .i64 ((rd_T42 x5_1 0).f5)) := hcc49 8 _ rfl; have hf49_0 : w56.frozen? ⟨go49, (0 : Int).toNat * 9, none⟩ = false := hfr49 0; have hf49_1 : w56.frozen? ⟨go49, (0 : Int).toNat * 9 + 1, none⟩ = false := hfr49 1; have hf49_2 : w56.frozen? ⟨go49, (0 : Int).toNat * 9 + 2, none⟩ = false := hfr49 2; have hf49_3 : w56.frozen? ⟨go49, (0 : Int).toNat * 9 + 3, none⟩ = false := hfr49 3; have hf49_4 : w56.frozen? ⟨go49, (0 : Int).toNat * 9 + 4, none⟩ = false := hfr49 4; have hf49_5 : w56.frozen? ⟨go49, (0 : Int).toNat * 9 + 5, none⟩ = false := hfr49 5; have hf49_6 : w56.frozen? ⟨go49, (0 : Int).toNat * 9 + 6, none⟩ = false := hfr49 6; have hf49_7 : w56.frozen? ⟨go49, (0 : Int).toNat * 9 + 7, none⟩ = false := hfr49 7; have hf49_8 : w56.frozen? ⟨go49, (0 : Int).toNat * 9 + 8, none⟩ = false := hfr49 8; clear hcl49 hcc49 hfr49 hM49; (try rw [show ((0 : Int)).toNat = 0 from rfl] at hx49_0); (try simp only [Nat.reduceMul, Nat.zero_mul, Nat.zero_add, Nat.reduceAdd] at hx49_0); (try rw [show ((0 : Int)).toNat = 0 from rfl] at hf49_0); (try simp only [Nat.reduceMul, Nat.zero_mul, Nat.zero_add, Nat.reduceAdd] at hf49_0); (try rw [show ((0 : Int)).toNat = 0 from rfl] at hx49_1); (try simp only [Nat.reduceMul, Nat.zero_mul, Nat.zero_add, Nat.reduceAdd] at hx49_1); (try rw [show ((0 : Int)).toNat = 0 from rfl] at hf49_1); (try simp only [Nat.reduceMul, Nat.zero_mul, Nat.zero_add, Nat.reduceAdd] at hf49_1); (try rw [show ((0 : Int)).toNat = 0 from rfl] at hx49_2); (try simp only [Nat.reduceMul, Nat.zero_mul, Nat.zero_add, Nat.reduceAdd] at hx49_2); (try rw [show ((0 : Int)).toNat = 0 from rfl] at hf49_2); (try simp only [Nat.reduceMul, Nat.zero_mul, Nat.zero_add, Nat.reduceAdd] at hf49_2); (try rw [show ((0 : Int)).toNat = 0 from rfl] at hx49_3); (try simp only [Nat.reduceMul, Nat.zero_mul, Nat.zero_add, Nat.reduceAdd] at hx49_3); (try rw [show ((0 : Int)).toNat = 0 from rfl] at hf49_3); (try simp only [Nat.reduceMul, Nat.zero_mul, Nat.zero_add, Nat.reduceAdd] at hf49_3); (try rw [show ((0 : Int)).toNat = 0 from rfl] at hx49_4); (try simp only [Nat.reduceMul, Nat.zero_mul, Nat.zero_add, Nat.reduceAdd] at hx49_4); (try rw [show ((0 : Int)).toNat = 0 from rfl] at hf49_4); (try simp only [Nat.reduceMul, Nat.zero_mul, Nat.zero_add, Nat.reduceAdd] at hf49_4); (try rw [show ((0 : Int)).toNat = 0 from rfl] at hx49_5); (try simp only [Nat.reduceMul, Nat.zero_mul, Nat.zero_add, Nat.reduceAdd] at hx49_5); (try rw [show ((0 : Int)).toNat = 0 from rfl] at hf49_5); (try simp only [Nat.reduceMul, Nat.zero_mul, Nat.zero_add, Nat.reduceAdd] at hf49_5); (try rw [show ((0 : Int)).toNat = 0 from rfl] at hx49_6); (try simp only [Nat.reduceMul, Nat.zero_mul, Nat.zero_add, Nat.reduceAdd] at hx49_6); (try rw [show ((0 : Int)).toNat = 0 from rfl] at hf49_6); (try simp only [Nat.reduceMul, Nat.zero_mul, Nat.zero_add, Nat.reduceAdd] at hf49_6); (try rw [show ((0 : Int)).toNat = 0 from rfl] at hx49_7); (try simp only [Nat.reduceMul, Nat.zero_mul, Nat.zero_add, Nat.reduceAdd] at hx49_7); (try rw [show ((0 : Int)).toNat = 0 from rfl] at hf49_7); (try simp only [Nat.reduceMul, Nat.zero_mul, Nat.zero_add, Nat.reduceAdd] at hf49_7); (try rw [show ((0 : Int)).toNat = 0 from rfl] at hx49_8); (try simp only [Nat.reduceMul, Nat.zero_mul, Nat.zero_add, Nat.reduceAdd] at hx49_8); (try rw [show ((0 : Int)).toNat = 0 from rfl] at hf49_8); (try simp only [Nat.reduceMul, Nat.zero_mul, Nat.zero_add, Nat.reduceAdd] at hf49_8); replace p49 := eq_true p49; replace q49 := eq_true q49; have HX57 := Aside0.mk (show Kd.R k42 42 w56 w.heap.size (fun k_ => k_ ≠ gb358) (.slice (some ⟨go49, 0, none⟩) x5_1.length co51) x5_1 from (kr HO_5.out)); obtain ⟨ce57, hcl57, hM57, hcc57, hfr57⟩ := Kd.R_elem HX57.out z42 (0 : Int) (by omega) (by have h_ : (0 : Int) < ((x5_1.length : Int) : Int) := of_decide_eq_true (by first | (with_reducible assumption) | assumption); first | exact h_ | (have e_ := (Kd.R_reads' HO_5.out).1; omega) | simpa using h_); obtain rfl := k42_openM hM57; have HP57 := Kd.R_seg HX57.out (0 : Int) (by omega) (by have h_ : (0 : Int) < ((x5_1.length : Int) : Int) := of_decide_eq_true (by first | (with_reducible assumption) | assumption); first | exact h_ | (have e_ := (Kd.R_reads' HO_5.out).1; omega) | simpa using h_) (seg := [.int .i64 ((rd_T42 x5_1 t355).f0), .int .i64 ((rd_T42 x5_1 t355).f1), .int .i64 ((rd_T42 x5_1 t355).f2.f0), .string ((rd_T42 x5_1 t355).f2.f1), .int .i64 ((rd_T42 x5_1 t355).f2.f2), .int .i64 ((rd_T42 x5_1 t355).f2.f3), .int .i64 ((rd_T42 x5_1 t355).f3), .int .i64 ((rd_T42 x5_1 t355).f4), .int .i64 ((rd_T42 x5_1 t355).f5)]) (j := 0) hcl57 hcc57 (show 9 ≤ 9 from by decide) (x' := (⟨(rd_T42 x5_1 t355).f0, (rd_T42 x5_1 t355).f1, (⟨(rd_T42 x5_1 t355).f2.f0, (rd_T42 x5_1 t355).f2.f1, (rd_T42 x5_1 t355).f2.f2, (rd_T42 x5_1 t355).f2.f3⟩ : S40), (rd_T42 x5_1 t355).f3, (rd_T42 x5_1 t355).f4, (rd_T42 x5_1 t355).f5⟩ : S42)) (k42_mkM _ _ _ (⟨(rd_T42 x5_1 t355).f0, (rd_T42 x5_1 t355).f1, (⟨(rd_T42 x5_1 t355).f2.f0, (rd_T42 x5_1 t355).f2.f1, (rd_T42 x5_1 t355).f2.f2, (rd_T42 x5_1 t355).f2.f3⟩ : S40), (rd_T42 x5_1 t355).f3, (rd_T42 x5_1 t355).f4, (rd_T42 x5_1 t355).f5⟩ : S42) ) (fun _ hk => hk); have hx57_0 := hcc57 0 _ rfl; (try simp only [show (k42).sz = 9 from rfl, Nat.mul_one, Nat.add_zero] at hx57_0); (try rw [show ((0 : Int)).toNat = 0 from rfl] at hx57_0); (try simp only [Nat.reduceMul, Nat.zero_mul, Nat.zero_add, Nat.reduceAdd] at hx57_0); have hf57_0 := hfr57 0; (try simp only [show (k42).sz = 9 from rfl, Nat.mul_one, Nat.add_zero] at hf57_0); (try rw [show ((0 : Int)).toNat = 0 from rfl] at hf57_0); (try simp only [Nat.reduceMul, Nat.zero_mul, Nat.zero_add, Nat.reduceAdd] at hf57_0); have hx57_1 := hcc57 1 _ rfl; (try simp only [show (k42).sz = 9 from rfl, Nat.mul_one, Nat.add_zero] at hx57_1); (try rw [show ((0 : Int)).toNat = 0 from rfl] at hx57_1); (try simp only [Nat.reduceMul, Nat.zero_mul, Nat.zero_add, Nat.reduceAdd] at hx57_1); have hf57_1 := hfr57 1; (try simp only [show (k42).sz = 9 from rfl, Nat.mul_one, Nat.add_zero] at hf57_1); (try rw [show ((0 : Int)).toNat = 0 from rfl] at hf57_1); (try simp only [Nat.reduceMul, Nat.zero_mul, Nat.zero_add, Nat.reduceAdd] at hf57_1); have hx57_2 := hcc57 2 _ rfl; (try simp only [show (k42).sz = 9 from rfl, Nat.mul_one, Nat.add_zero] at hx57_2); (try rw [show ((0 : Int)).toNat = 0 from rfl] at hx57_2); (try simp only [Nat.reduceMul, Nat.zero_mul, Nat.zero_add, Nat.reduceAdd] at hx57_2); have hf57_2 := hfr57 2; (try simp only [show (k42).sz = 9 from rfl, Nat.mul_one, Nat.add_zero] at hf57_2); (try rw [show ((0 : Int)).toNat = 0 from rfl] at hf57_2); (try simp only [Nat.reduceMul, Nat.zero_mul, Nat.zero_add, Nat.reduceAdd] at hf57_2); have hx57_3 := hcc57 3 _ rfl; (try simp only [show (k42).sz = 9 from rfl, Nat.mul_one, Nat.add_zero] at hx57_3); (try rw [show ((0 : Int)).toNat = 0 from rfl] at hx57_3); (try simp only [Nat.reduceMul, Nat.zero_mul, Nat.zero_add, Nat.reduceAdd] at hx57_3); have hf57_3 := hfr57 3; (try simp only [show (k42).sz = 9 from rfl, Nat.mul_one, Nat.add_zero] at hf57_3); (try rw [show ((0 : Int)).toNat = 0 from rfl] at hf57_3); (try simp only [Nat.reduceMul, Nat.zero_mul, Nat.zero_add, Nat.reduceAdd] at hf57_3); have hx57_4 := hcc57 4 _ rfl; (try simp only [show (k42).sz = 9 from rfl, Nat.mul_one, Nat.add_zero] at hx57_4); (try rw [show ((0 : Int)).toNat = 0 from rfl] at hx57_4); (try simp only [Nat.reduceMul, Nat.zero_mul, Nat.zero_add, Nat.reduceAdd] at hx57_4); have hf57_4 := hfr57 4; (try simp only [show (k42).sz = 9 from rfl, Nat.mul_one, Nat.add_zero] at hf57_4); (try rw [show ((0 : Int)).toNat = 0 from rfl] at hf57_4); (try simp only [Nat.reduceMul, Nat.zero_mul, Nat.zero_add, Nat.reduceAdd] at hf57_4); have hx57_5 := hcc57 5 _ rfl; (try simp only [show (k42).sz = 9 from rfl, Nat.mul_one, Nat.add_zero] at hx57_5); (try rw [show ((0 : Int)).toNat = 0 from rfl] at hx57_5); (try simp only [Nat.reduceMul, Nat.zero_mul, Nat.zero_add, Nat.reduceAdd] at hx57_5); have hf57_5 := hfr57 5; (try simp only [show (k42).sz = 9 from rfl, Nat.mul_one, Nat.add_zero] at hf57_5); (try rw [show ((0 : Int)).toNat = 0 from rfl] at hf57_5); (try simp only [Nat.reduceMul, Nat.zero_mul, Nat.zero_add, Nat.reduceAdd] at hf57_5); have hx57_6 := hcc57 6 _ rfl; (try simp only [show (k42).sz = 9 from rfl, Nat.mul_one, Nat.add_zero] at hx57_6); (try rw [show ((0 : Int)).toNat = 0 from rfl] at hx57_6); (try simp only [Nat.reduceMul, Nat.zero_mul, Nat.zero_add, Nat.reduceAdd] at hx57_6); have hf57_6 := hfr57 6; (try simp only [show (k42).sz = 9 from rfl, Nat.mul_one, Nat.add_zero] at hf57_6); (try rw [show ((0 : Int)).toNat = 0 from rfl] at hf57_6); (try simp only [Nat.reduceMul, Nat.zero_mul, Nat.zero_add, Nat.reduceAdd] at hf57_6); have hx57_7 := hcc57 7 _ rfl; (try simp only [show (k42).sz = 9 from rfl, Nat.mul_one, Nat.add_zero] at hx57_7); (try rw [show ((0 : Int)).toNat = 0 from rfl] at hx57_7); (try simp only [Nat.reduceMul, Nat.zero_mul, Nat.zero_add, Nat.reduceAdd] at hx57_7); have hf57_7 := hfr57 7; (try simp only [show (k42).sz = 9 from rfl, Nat.mul_one, Nat.add_zero] at hf57_7); (try rw [show ((0 : Int)).toNat = 0 from rfl] at hf57_7); (try simp only [Nat.reduceMul, Nat.zero_mul, Nat.zero_add, Nat.reduceAdd] at hf57_7); have hx57_8 := hcc57 8 _ rfl; (try simp only [show (k42).sz = 9 from rfl, Nat.mul_one, Nat.add_zero] at hx57_8); (try rw [show ((0 : Int)).toNat = 0 from rfl] at hx57_8); (try simp only [Nat.reduceMul, Nat.zero_mul, Nat.zero_add, Nat.reduceAdd] at hx57_8); have hf57_8 := hfr57 8; (try simp only [show (k42).sz = 9 from rfl, Nat.mul_one, Nat.add_zero] at hf57_8); (try rw [show ((0 : Int)).toNat = 0 from rfl] at hf57_8); (try simp only [Nat.reduceMul, Nat.zero_mul, Nat.zero_add, Nat.reduceAdd] at hf57_8); clear hcl57 hcc57 hfr57 hM57) | ((with_reducible refine gate_store (t := 42) (p := 81) rfl ?_); refine store_event (t := 42) (p := 81) (v := ?vo_w58) (w1 := (((((((((w56.setCell ⟨go49, 0, none⟩ (.int .i64 ((rd_T42 x5_1 t355).f0))).setCell ⟨go49, 1, none⟩ (.int .i64 ((rd_T42 x5_1 t355).f1))).setCell ⟨go49, 2, none⟩ (.int .i64 ((rd_T42 x5_1 t355).f2.f0))).setCell ⟨go49, 3, none⟩ (.string ((rd_T42 x5_1 t355).f2.f1))).setCell ⟨go49, 4, none⟩ (.int .i64 ((rd_T42 x5_1 t355).f2.f2))).setCell ⟨go49, 5, none⟩ (.int .i64 ((rd_T42 x5_1 t355).f2.f3))).setCell ⟨go49, 6, none⟩ (.int .i64 ((rd_T42 x5_1 t355).f3))).setCell ⟨go49, 7, none⟩ (.int .i64 ((rd_T42 x5_1 t355).f4))).setCell ⟨go49, 8, none⟩ (.int .i64 ((rd_T42 x5_1 t355).f5)))) ?hg ?ho ?hn ?hr ?_; (case ho => rfl); (case hg => rfl); (case hn => rfl); (case hr => first | (go_simp; done) | (go_simp; rfl)); intro w58 hw; have hg : w56.grownBy w58 (some go49) := (by rw [hw]; exact HP57.2); have hp_ : Kd.R k42 42 w58 w.heap.size (fun k_ => k_ ≠ gb358) (.slice (some ⟨go49, 0, none⟩) x5_1.length co51) y360 := (by rw [hw, Ny360.out]; exact HP57.1); clear HP57; have n0_ := Aside0.mk (hp_); have n1_ := Aside0.mk (IsS147.grown (spec_l20Results.s4 HI0.out NB0_358.out) hg (IsS147.own_ne HI0.out HO_5.out (by decide))); have n2_ := Aside0.mk (blk_grown (g := gb358) (o := .cells #[.int .i64 ((rd_T42 x5_1 0).f0), .int .i64 ((rd_T42 x5_1 0).f1), .int .i64 ((rd_T42 x5_1 0).f2.f0), .string ((rd_T42 x5_1 0).f2.f1), .int .i64 ((rd_T42 x5_1 0).f2.f2), .int .i64 ((rd_T42 x5_1 0).f2.f3), .int .i64 ((rd_T42 x5_1 0).f3), .int .i64 ((rd_T42 x5_1 0).f4), .int .i64 ((rd_T42 x5_1 0).f5)] 42 (0, 0)) (kb BK358.out) hg (Kd.R_away HO_5.out (fun _ hk => hk))); have n3_ := Aside0.mk ((by rw [hw]; exact below_set (below_set (below_set (below_set (below_set (below_set (below_set (below_set (below_set (HB.out) (Nat.le_trans HL.out GB49.out)) (Nat.le_trans HL.out GB49.out)) (Nat.le_trans HL.out GB49.out)) (Nat.le_trans HL.out GB49.out)) (Nat.le_trans HL.out GB49.out)) (Nat.le_trans HL.out GB49.out)) (Nat.le_trans HL.out GB49.out)) (Nat.le_trans HL.out GB49.out)) (Nat.le_trans HL.out GB49.out) : Below w0.heap.size w0 w58)); have n4_ := Aside0.mk (KeepBut.trans (spec_l20Results.s3 HK.out GW358.out) (KeepBut.of_grown hg g) (Kd.R_base2 HO_5.out)); clear HO_5; clear HI0; clear BK358; clear HB; clear HK; have HO_5 := n0_; have HI0 := n1_; have BK358 := n2_; have HB := n3_; have HK := n4_; clear n0_ n1_ n2_ n3_ n4_; clear hg hw hp_; obtain ⟨hcz59_0, hcz59_1, hcz59_2, hcz59_3, hcz59_4, hcz59_5, hcz59_6, hcz59_7, hcz59_8, hfz59_0, hfz59_1, hfz59_2, hfz59_3, hfz59_4, hfz59_5, hfz59_6, hfz59_7, hfz59_8⟩ := cl9 BK358; have p50 : 0 ≤ (t355 : Int) := of_decide_eq_true (by first | (with_reducible assumption) | assumption); have q50 : (t355 : Int) < ((x5_1.length : Int) : Int) := of_decide_eq_true (by first | (with_reducible assumption) | assumption); obtain ⟨ce50, hcl50, hM50, hcc50, hfr50⟩ := Kd.R_elem HO_5.out z42 (t355 : Int) p50 q50; obtain rfl := k42_openM hM50; have hx50_0 : w58.cell? ⟨go49, (t355 : Int).toNat * 9, none⟩ = some (.int .i64 ((rd_T42 y360 t355).f0)) := hcc50 0 _ rfl; have hx50_1 : w58.cell? ⟨go49, (t355 : Int).toNat * 9 + 1, none⟩ = some (.int .i64 ((rd_T42 y360 t355).f1)) := hcc50 1 _ rfl; have hx50_2 : w58.cell? ⟨go49, (t355 : Int).toNat * 9 + 2, none⟩ = some (.int .i64 ((rd_T42 y360 t355).f2.f0)) := hcc50 2 _ rfl; have hx50_3 : w58.cell? ⟨go49, (t355 : Int).toNat * 9 + 3, none⟩ = some (.string ((rd_T42 y360 t355).f2.f1)) := hcc50 3 _ rfl; have hx50_4 : w58.cell? ⟨go49, (t355 : Int).toNat * 9 + 4, none⟩ = some (.int .i64 ((rd_T42 y360 t355).f2.f2)) := hcc50 4 _ rfl; have hx50_5 : w58.cell? ⟨go49, (t355 : Int).toNat * 9 + 5, none⟩ = some (.int .i64 ((rd_T42 y360 t355).f2.f3)) := hcc50 5 _ rfl; have hx50_6 : w58.cell? ⟨go49, (t355 : Int).toNat * 9 + 6, none⟩ = some (.int .i64 ((rd_T42 y360 t355).f3)) := hcc50 6 _ rfl; have hx50_7 : w58.cell? ⟨go49, (t355 : Int).toNat * 9 + 7, none⟩ = some (.int .i64 ((rd_T42 y360 t355).f4)) := hcc50 7 _ rfl; have hx50_8 : w58.cell? ⟨go49, (t355 : Int).toNat * 9 + 8, none⟩ = some (.int .i64 ((rd_T42 y360 t355).f5)) := hcc50 8 _ rfl; have hf50_0 : w58.frozen? ⟨go49, (t355 : Int).toNat * 9, none⟩ = false := hfr50 0; have hf50_1 : w58.frozen? ⟨go49, (t355 : Int).toNat * 9 + 1, none⟩ = false := hfr50 1; have hf50_2 : w58.frozen? ⟨go49, (t355 : Int).toNat * 9 + 2, none⟩ = false := hfr50 2; have hf50_3 : w58.frozen? ⟨go49, (t355 : Int).toNat * 9 + 3, none⟩ = false := hfr50 3; have hf50_4 : w58.frozen? ⟨go49, (t355 : Int).toNat * 9 + 4, none⟩ = false := hfr50 4; have hf50_5 : w58.frozen? ⟨go49, (t355 : Int).toNat * 9 + 5, none⟩ = false := hfr50 5; have hf50_6 : w58.frozen? ⟨go49, (t355 : Int).toNat * 9 + 6, none⟩ = false := hfr50 6; have hf50_7 : w58.frozen? ⟨go49, (t355 : Int).toNat * 9 + 7, none⟩ = false := hfr50 7; have hf50_8 : w58.frozen? ⟨go49, (t355 : Int).toNat * 9 + 8, none⟩ = false := hfr50 8; clear hcl50 hcc50 hfr50 hM50; replace p50 := eq_true p50; replace q50 := eq_true q50; have HX60 := Aside0.mk (show Kd.R k42 42 w58 w.heap.size (fun k_ => k_ ≠ gb358) (.slice (some ⟨go49, 0, none⟩) x5_1.length co51) y360 from (kr HO_5.out)); obtain ⟨ce60, hcl60, hM60, hcc60, hfr60⟩ := Kd.R_elem HX60.out z42 (t355 : Int) (of_decide_eq_true (by first | (with_reducible assumption) | assumption)) (by have h_ : (t355 : Int) < ((x5_1.length : Int) : Int) := of_decide_eq_true (by first | (with_reducible assumption) | assumption); first | exact h_ | (have e_ := (Kd.R_reads' HO_5.out).1; omega) | simpa using h_); obtain rfl := k42_openM hM60; have HP60 := Kd.R_seg HX60.out (t355 : Int) (of_decide_eq_true (by first | (with_reducible assumption) | assumption)) (by have h_ : (t355 : Int) < ((x5_1.length : Int) : Int) := of_decide_eq_true (by first | (with_reducible assumption) | assumption); first | exact h_ | (have e_ := (Kd.R_reads' HO_5.out).1; omega) | simpa using h_) (seg := [.int .i64 ((rd_T42 x5_1 0).f0), .int .i64 ((rd_T42 x5_1 0).f1), .int .i64 ((rd_T42 x5_1 0).f2.f0), .string ((rd_T42 x5_1 0).f2.f1), .int .i64 ((rd_T42 x5_1 0).f2.f2), .int .i64 ((rd_T42 x5_1 0).f2.f3), .int .i64 ((rd_T42 x5_1 0).f3), .int .i64 ((rd_T42 x5_1 0).f4), .int .i64 ((rd_T42 x5_1 0).f5)]) (j := 0) hcl60 hcc60 (show 9 ≤ 9 from by decide) (x' := (⟨(rd_T42 x5_1 0).f0, (rd_T42 x5_1 0).f1, (⟨(rd_T42 x5_1 0).f2.f0, (rd_T42 x5_1 0).f2.f1, (rd_T42 x5_1 0).f2.f2, (rd_T42 x5_1 0).f2.f3⟩ : S40), (rd_T42 x5_1 0).f3, (rd_T42 x5_1 0).f4, (rd_T42 x5_1 0).f5⟩ : S42)) (k42_mkM _ _ _ (⟨(rd_T42 x5_1 0).f0, (rd_T42 x5_1 0).f1, (⟨(rd_T42 x5_1 0).f2.f0, (rd_T42 x5_1 0).f2.f1, (rd_T42 x5_1 0).f2.f2, (rd_T42 x5_1 0).f2.f3⟩ : S40), (rd_T42 x5_1 0).f3, (rd_T42 x5_1 0).f4, (rd_T42 x5_1 0).f5⟩ : S42) ) (fun _ hk => hk); have hx60_0 := hcc60 0 _ rfl; (try simp only [show (k42).sz = 9 from rfl, Nat.mul_one, Nat.add_zero] at hx60_0); have hf60_0 := hfr60 0; (try simp only [show (k42).sz = 9 from rfl, Nat.mul_one, Nat.add_zero] at hf60_0); have hx60_1 := hcc60 1 _ rfl; (try simp only [show (k42).sz = 9 from rfl, Nat.mul_one, Nat.add_zero] at hx60_1); have hf60_1 := hfr60 1; (try simp only [show (k42).sz = 9 from rfl, Nat.mul_one, Nat.add_zero] at hf60_1); have hx60_2 := hcc60 2 _ rfl; (try simp only [show (k42).sz = 9 from rfl, Nat.mul_one, Nat.add_zero] at hx60_2); have hf60_2 := hfr60 2; (try simp only [show (k42).sz = 9 from rfl, Nat.mul_one, Nat.add_zero] at hf60_2); have hx60_3 := hcc60 3 _ rfl; (try simp only [show (k42).sz = 9 from rfl, Nat.mul_one, Nat.add_zero] at hx60_3); have hf60_3 := hfr60 3; (try simp only [show (k42).sz = 9 from rfl, Nat.mul_one, Nat.add_zero] at hf60_3); have hx60_4 := hcc60 4 _ rfl; (try simp only [show (k42).sz = 9 from rfl, Nat.mul_one, Nat.add_zero] at hx60_4); have hf60_4 := hfr60 4; (try simp only [show (k42).sz = 9 from rfl, Nat.mul_one, Nat.add_zero] at hf60_4); have hx60_5 := hcc60 5 _ rfl; (try simp only [show (k42).sz = 9 from rfl, Nat.mul_one, Nat.add_zero] at hx60_5); have hf60_5 := hfr60 5; (try simp only [show (k42).sz = 9 from rfl, Nat.mul_one, Nat.add_zero] at hf60_5); have hx60_6 := hcc60 6 _ rfl; (try simp only [show (k42).sz = 9 from rfl, Nat.mul_one, Nat.add_zero] at hx60_6); have hf60_6 := hfr60 6; (try simp only [show (k42).sz = 9 from rfl, Nat.mul_one, Nat.add_zero] at hf60_6); have hx60_7 := hcc60 7 _ rfl; (try simp only [show (k42).sz = 9 from rfl, Nat.mul_one, Nat.add_zero] at hx60_7); have hf60_7 := hfr60 7; (try simp only [show (k42).sz = 9 from rfl, Nat.mul_one, Nat.add_zero] at hf60_7); have hx60_8 := hcc60 8 _ rfl; (try simp only [show (k42).sz = 9 from rfl, Nat.mul_one, Nat.add_zero] at hx60_8); have hf60_8 := hfr60 8; (try simp only [show (k42).sz = 9 from rfl, Nat.mul_one, Nat.add_zero] at hf60_8); clear hcl60 hcc60 hfr60 hM60) | ((with_reducible refine gate_store (t := 42) (p := 85) rfl ?_); refine store_event (t := 42) (p := 85) (v := ?vo_w61) (w1 := (((((((((w58.setCell ⟨go49, (t355 : Int).toNat * 9, none⟩ (.int .i64 ((rd_T42 x5_1 0).f0))).setCell ⟨go49, (t355 : Int).toNat * 9 + 1, none⟩ (.int .i64 ((rd_T42 x5_1 0).f1))).setCell ⟨go49, (t355 : Int).toNat * 9 + 2, none⟩ (.int .i64 ((rd_T42 x5_1 0).f2.f0))).setCell ⟨go49, (t355 : Int).toNat * 9 + 3, none⟩ (.string ((rd_T42 x5_1 0).f2.f1))).setCell ⟨go49, (t355 : Int).toNat * 9 + 4, none⟩ (.int .i64 ((rd_T42 x5_1 0).f2.f2))).setCell ⟨go49, (t355 : Int).toNat * 9 + 5, none⟩ (.int .i64 ((rd_T42 x5_1 0).f2.f3))).setCell ⟨go49, (t355 : Int).toNat * 9 + 6, none⟩ (.int .i64 ((rd_T42 x5_1 0).f3))).setCell ⟨go49, (t355 : Int).toNat * 9 + 7, none⟩ (.int .i64 ((rd_T42 x5_1 0).f4))).setCell ⟨go49, (t355 : Int).toNat * 9 + 8, none⟩ (.int .i64 ((rd_T42 x5_1 0).f5)))) ?hg ?ho ?hn ?hr ?_; (case ho => rfl); (case hg => rfl); (case hn => rfl); (case hr => first | (go_simp; done) | (go_simp; rfl)); intro w61 hw; have hg : w58.grownBy w61 (some go49) := (by rw [hw]; exact HP60.2); have hp_ : Kd.R k42 42 w61 w.heap.size (fun k_ => k_ ≠ gb358) (.slice (some ⟨go49, 0, none⟩) x5_1.length co51) y361 := (by rw [hw, Ny361.out]; exact HP60.1); clear HP60; have n0_ := Aside0.mk (hp_); have n1_ := Aside0.mk (IsS147.grown (spec_l20Results.s4 HI0.out NB0_358.out) hg (IsS147.own_ne HI0.out HO_5.out (by decide))); have n2_ := Aside0.mk (blk_grown (g := gb358) (o := .cells #[.int .i64 ((rd_T42 x5_1 0).f0), .int .i64 ((rd_T42 x5_1 0).f1), .int .i64 ((rd_T42 x5_1 0).f2.f0), .string ((rd_T42 x5_1 0).f2.f1), .int .i64 ((rd_T42 x5_1 0).f2.f2), .int .i64 ((rd_T42 x5_1 0).f2.f3), .int .i64 ((rd_T42 x5_1 0).f3), .int .i64 ((rd_T42 x5_1 0).f4), .int .i64 ((rd_T42 x5_1 0).f5)] 42 (0, 0)) (kb BK358.out) hg (Kd.R_away HO_5.out (fun _ hk => hk))); have n3_ := Aside0.mk ((by rw [hw]; exact below_set (below_set (below_set (below_set (below_set (below_set (below_set (below_set (below_set (HB.out) (Nat.le_trans HL.out GB49.out)) (Nat.le_trans HL.out GB49.out)) (Nat.le_trans HL.out GB49.out)) (Nat.le_trans HL.out GB49.out)) (Nat.le_trans HL.out GB49.out)) (Nat.le_trans HL.out GB49.out)) (Nat.le_trans HL.out GB49.out)) (Nat.le_trans HL.out GB49.out)) (Nat.le_trans HL.out GB49.out) : Below w0.heap.size w0 w61)); have n4_ := Aside0.mk (KeepBut.trans (spec_l20Results.s3 HK.out GW358.out) (KeepBut.of_grown hg g) (Kd.R_base2 HO_5.out)); clear HO_5; clear HI0; clear BK358; clear HB; clear HK; have HO_5 := n0_; have HI0 := n1_; have BK358 := n2_; have HB := n3_; have HK := n4_; clear n0_ n1_ n2_ n3_ n4_; clear hg hw hp_))
           go_meet
           case rel => exact ⟨_, (y361), (t356), H', ⟨by have := HK1.out; have := HJ36.out; first | omega | exact Nat.le_refl _⟩, ⟨by (with_reducible repeat (first | apply Kd.R_alloc | apply Kd.R_drewN | apply Kd.R_drew)); exact Kd.R_mono HO_5.out (fun _ hk => trivial)⟩, ⟨spec_l20Results.s4 HI0.out NB0_358.out⟩, ⟨spec_l20Results.s3 HK.out GW358.out⟩, ⟨spec_l20Results.s5 HB.out HI0.out GE358.out⟩⟩
          ·
           rw [if_neg c48] at H
           exact absurd H (by simp)
         ·
          rw [if_neg c47] at H
          exact absurd H (by simp)
        ·
         rw [if_neg c46] at H
         exact absurd H (by simp)
       ·
        replace c44 := Bool.eq_false_iff.mpr c44
        subst c44
        have H1 : (spec_l20Results.j2 kj36 a1 x5_1 s0_0 x1001_36) = some (r1, r2) := by rw [if_neg (show ¬ (false = true) by decide)] at H; exact H
        clear H
        have H := H1
        clear H1
        have H' := Aside0.mk H
        clear H
        go_wp2
        go_meet
        case rel => exact ⟨_, (x5_1), (x1001_36), H', ⟨by have := HK1.out; have := HJ36.out; first | omega | exact Nat.le_refl _⟩, ⟨by (with_reducible repeat (first | apply Kd.R_alloc | apply Kd.R_drewN | apply Kd.R_drew)); exact HO_5.out⟩, ⟨spec_l20Results.s1 HI0.out⟩, ⟨spec_l20Results.s0 HK.out⟩, ⟨spec_l20Results.s2 HB.out HI0.out⟩⟩
      case rest =>
       clear HC43
       try clear c1
       try clear c2
       try clear p2
       try clear c3
       try clear p3
       try clear q3
       try clear hx3
       try clear qi3
       try clear c4
       try clear p4
       try clear q4
       try clear hx4
       try clear qi4
       try clear hf4
       try clear c5
       try clear p5
       try clear q5
       try clear hx5
       try clear hf5
       try clear c6
       try clear p6
       try clear hx6
       try clear hf6
       try clear c7
       try clear c9
       try clear c9b0
       try clear c12
       try clear c13
       try clear c13b0
       try clear c14
       try clear c14b0
       try clear c20
       try clear c23
       try clear p33
       try clear q33
       try clear hx33
       try clear p35
       try clear q35
       try clear hx35
       try clear qi35
       try clear c38
       try clear c38b0
       try clear c38b1
       try clear c44
       try clear c46
       try clear c46b0
       try clear c46b1
       try clear c47
       try clear c47b0
       try clear c48
       try clear c48b0
       try clear c49
       try clear p49
       try clear q49
       try clear hx49
       try clear qi49
       try clear hf49
       try clear c50
       try clear p50
       try clear q50
       try clear hx50
       try clear hf50
       try clear c54
       try clear c57
       try clear hx57
       try clear hf57
       try clear c60
       try clear hx60
       try clear hf60
       try clear hcz24_0
       try clear hcz24_1
       try clear hcz24_2
       try clear hcz24_3
       try clear hcz29_0
       try clear hcz29_1
       try clear hcz29_2
       try clear hcz29_3
       try clear hcz55_0
       try clear hcz55_1
       try clear hcz55_2
       try clear hcz55_3
       try clear hcz55_4
       try clear hcz55_5
       try clear hcz55_6
       try clear hcz55_7
       try clear hcz55_8
       try clear hcz59_0
       try clear hcz59_1
       try clear hcz59_2
       try clear hcz59_3
       try clear hcz59_4
       try clear hcz59_5
       try clear hcz59_6
       try clear hcz59_7
       try clear hcz59_8
       try clear hfz24_0
       try clear hfz24_1
       try clear hfz24_2
       try clear hfz24_3
       try clear hfz29_0
       try clear hfz29_1
       try clear hfz29_2
       try clear hfz29_3
       try clear hfz55_0
       try clear hfz55_1
       try clear hfz55_2
       try clear hfz55_3
       try clear hfz55_4
       try clear hfz55_5
       try clear hfz55_6
       try clear hfz55_7
       try clear hfz55_8
       try clear hfz59_0
       try clear hfz59_1
       try clear hfz59_2
       try clear hfz59_3
       try clear hfz59_4
       try clear hfz59_5
       try clear hfz59_6
       try clear hfz59_7
       try clear hfz59_8
       try clear hx339_0
       try clear hx357_0
       try clear hx357_1
       try clear hx357_2
       try clear hx357_3
       try clear hx357_4
       try clear hx357_5
       try clear hx357_6
       try clear hx357_7
       try clear hx357_8
       try clear hx359_0
       try clear hx359_1
       try clear hx359_2
       try clear hx359_3
       try clear hx359_4
       try clear hx359_5
       try clear hx359_6
       try clear hx359_7
       try clear hx359_8
       try clear hx49_0
       try clear hx49_1
       try clear hx49_2
       try clear hx49_3
       try clear hx49_4
       try clear hx49_5
       try clear hx49_6
       try clear hx49_7
       try clear hx49_8
       try clear hx50_0
       try clear hx50_1
       try clear hx50_2
       try clear hx50_3
       try clear hx50_4
       try clear hx50_5
       try clear hx50_6
       try clear hx50_7
       try clear hx50_8
       try clear hx57_0
       try clear hx57_1
       try clear hx57_2
       try clear hx57_3
       try clear hx57_4
       try clear hx57_5
       try clear hx57_6
       try clear hx57_7
       try clear hx57_8
       try clear hx60_0
       try clear hx60_1
       try clear hx60_2
       try clear hx60_3
       try clear hx60_4
       try clear hx60_5
       try clear hx60_6
       try clear hx60_7
       try clear hx60_8
       try clear p2
       try clear p3
       try clear p33
       try clear p339
       try clear p357
       try clear p359
       try clear p49
       try clear p50
       try clear p6
       try clear q3
       try clear q33
       try clear q339
       try clear q357
       try clear q359
       try clear q49
       try clear q50
       obtain ⟨kq, x5_42, x1001_42, HA, HJ42, HO_5, HI0, HK, HB⟩ := hcut
       cases kq with
       | zero => exact absurd HA.out (by simp [spec_l20Results.j2])
       | succ kj42 =>
        have H := HA.out
        clear HA
        simp only [spec_l20Results.j2] at H
        have HC62 := Aside0.mk H
        clear H
        go_upto_region 19 with (fail)
        go_cut [93] (fun v93 wc => ∃ (kq : Nat) (x93_61 : Bool) (x1001_61 : Int), v93 = .bool x93_61 ∧ Aside0 (spec_l20Results.j3 kq a1 x5_42 x93_61 s0_0 x1001_61 = some (r1, r2)) ∧ Aside0 (kq ≤ kj42) ∧ Aside0 (Kd.R k42 42 wc w.heap.size (fun _ => True) u5 x5_42) ∧ Aside0 (IsS147 w0 wc g s0_0 x1001_61) ∧ Aside0 (KeepBut w wc g none) ∧ Aside0 (Below w0.heap.size w0 wc))
        case first =>
         have H := HC62.out
         clear HC62
         by_cases c63 : (x5_42.length : Int) > 0
         ·
          rw [if_pos c63] at H
          have c63b0 : decide (0 < (x5_42.length : Int)) = true := decide_eq_true c63
          have c63b1 : decide (0 < x5_42.length) = true := decide_eq_true (by omega)
          clear c63
          (first | rw [c63b0] | (simp only [i64_w, i32_w]; rw [c63b0]) | skip)
          replace H := Option.bind_eq_some_iff.mp H
          obtain ⟨⟨t362, t363⟩, A640, H⟩ := H
          replace H : (spec_l20Results.j3 kj42 a1 x5_42 (t362 == 0) s0_0 t363) = some (r1, r2) := H
          have A64 := Aside0.mk A640
          clear A640
          have H' := Aside0.mk H
          clear H
          obtain ⟨Ao65, co65, eo65⟩ := Kd.R_slice HO_5.out
          subst eo65
          go_wp2_with (first | (go_at_call 78; (with_reducible refine (spec_l20Rd_pick.calls kj42 g s0_0 x1001_42 4 t362 t363 w0 _ ?side1 ?side2 A64.out).mono ?_); (case side1 => exact spec_l20Results.s1 HI0.out); (case side2 => exact spec_l20Results.s2 HB.out HI0.out); rintro e w66 ⟨rfl, hi, hb, hk⟩; have n0_ := Aside0.mk (Kd.R_mono (Kd.R_keep (IsS147.apart (show IsS147 w0 _ g s0_0 x1001_42 from spec_l20Results.s1 HI0.out) (kr HO_5.out) (by decide)) hk (fun _ h => h.2)) (fun _ h => h.1)); have n1_ := Aside0.mk (KeepBut.trans (spec_l20Results.s0 HK.out) hk (.inl rfl)); have n2_ := Aside0.mk (hb); have n3_ := Aside0.mk (hi); clear HO_5; clear HK; clear HB; clear HI0; have HO_5 := n0_; have HK := n1_; have HB := n2_; have HI0 := n3_; clear n0_ n1_ n2_ n3_; (try clear hb); (try clear hb2); (try clear hk); (try clear hi)))
          go_meet
          case rel => exact ⟨_, ((t362 == 0)), (t363), (by first | rfl | (simp; done) | (simp [*]; done) | (simp [bne_nil_, beq_nil_]; done)), H', ⟨by have := HK1.out; have := HJ36.out; have := HJ42.out; first | omega | exact Nat.le_refl _⟩, ⟨by (with_reducible repeat (first | apply Kd.R_alloc | apply Kd.R_drewN | apply Kd.R_drew)); exact HO_5.out⟩, ⟨spec_l20Results.s1 HI0.out⟩, ⟨spec_l20Results.s0 HK.out⟩, ⟨spec_l20Results.s2 HB.out HI0.out⟩⟩
         ·
          rw [if_neg c63] at H
          have c63b0 : decide (0 < (x5_42.length : Int)) = false := decide_eq_false c63
          have c63b1 : decide (0 < x5_42.length) = false := decide_eq_false (by omega)
          clear c63
          (first | rw [c63b0] | (simp only [i64_w, i32_w]; rw [c63b0]) | skip)
          have H' := Aside0.mk H
          clear H
          obtain ⟨Ao67, co67, eo67⟩ := Kd.R_slice HO_5.out
          subst eo67
          go_wp2
          go_meet
          case rel => exact ⟨_, (false), (x1001_42), (by first | rfl | (simp; done) | (simp [*]; done) | (simp [bne_nil_, beq_nil_]; done)), H', ⟨by have := HK1.out; have := HJ36.out; have := HJ42.out; first | omega | exact Nat.le_refl _⟩, ⟨by (with_reducible repeat (first | apply Kd.R_alloc | apply Kd.R_drewN | apply Kd.R_drew)); exact HO_5.out⟩, ⟨spec_l20Results.s1 HI0.out⟩, ⟨spec_l20Results.s0 HK.out⟩, ⟨spec_l20Results.s2 HB.out HI0.out⟩⟩
        case rest =>
         clear HC62
         try clear c1
         try clear c2
         try clear p2
         try clear c3
         try clear p3
         try clear q3
         try clear hx3
         try clear qi3
         try clear c4
         try clear p4
         try clear q4
         try clear hx4
         try clear qi4
         try clear hf4
         try clear c5
         try clear p5
         try clear q5
         try clear hx5
         try clear hf5
         try clear c6
         try clear p6
         try clear hx6
         try clear hf6
         try clear c7
         try clear c9
         try clear c9b0
         try clear c12
         try clear c13
         try clear c13b0
         try clear c14
         try clear c14b0
         try clear c20
         try clear c23
         try clear p33
         try clear q33
         try clear hx33
         try clear p35
         try clear q35
         try clear hx35
         try clear qi35
         try clear c38
         try clear c38b0
         try clear c38b1
         try clear c44
         try clear c46
         try clear c46b0
         try clear c46b1
         try clear c47
         try clear c47b0
         try clear c48
         try clear c48b0
         try clear c49
         try clear p49
         try clear q49
         try clear hx49
         try clear qi49
         try clear hf49
         try clear c50
         try clear p50
         try clear q50
         try clear hx50
         try clear hf50
         try clear c54
         try clear c57
         try clear hx57
         try clear hf57
         try clear c60
         try clear hx60
         try clear hf60
         try clear c63
         try clear c63b0
         try clear c63b1
         try clear p64
         try clear hcz24_0
         try clear hcz24_1
         try clear hcz24_2
         try clear hcz24_3
         try clear hcz29_0
         try clear hcz29_1
         try clear hcz29_2
         try clear hcz29_3
         try clear hcz55_0
         try clear hcz55_1
         try clear hcz55_2
         try clear hcz55_3
         try clear hcz55_4
         try clear hcz55_5
         try clear hcz55_6
         try clear hcz55_7
         try clear hcz55_8
         try clear hcz59_0
         try clear hcz59_1
         try clear hcz59_2
         try clear hcz59_3
         try clear hcz59_4
         try clear hcz59_5
         try clear hcz59_6
         try clear hcz59_7
         try clear hcz59_8
         try clear hfz24_0
         try clear hfz24_1
         try clear hfz24_2
         try clear hfz24_3
         try clear hfz29_0
         try clear hfz29_1
         try clear hfz29_2
         try clear hfz29_3
         try clear hfz55_0
         try clear hfz55_1
         try clear hfz55_2
         try clear hfz55_3
         try clear hfz55_4
         try clear hfz55_5
         try clear hfz55_6
         try clear hfz55_7
         try clear hfz55_8
         try clear hfz59_0
         try clear hfz59_1
         try clear hfz59_2
         try clear hfz59_3
         try clear hfz59_4
         try clear hfz59_5
         try clear hfz59_6
         try clear hfz59_7
         try clear hfz59_8
         try clear hx339_0
         try clear hx357_0
         try clear hx357_1
         try clear hx357_2
         try clear hx357_3
         try clear hx357_4
         try clear hx357_5
         try clear hx357_6
         try clear hx357_7
         try clear hx357_8
         try clear hx359_0
         try clear hx359_1
         try clear hx359_2
         try clear hx359_3
         try clear hx359_4
         try clear hx359_5
         try clear hx359_6
         try clear hx359_7
         try clear hx359_8
         try clear hx49_0
         try clear hx49_1
         try clear hx49_2
         try clear hx49_3
         try clear hx49_4
         try clear hx49_5
         try clear hx49_6
         try clear hx49_7
         try clear hx49_8
         try clear hx50_0
         try clear hx50_1
         try clear hx50_2
         try clear hx50_3
         try clear hx50_4
         try clear hx50_5
         try clear hx50_6
         try clear hx50_7
         try clear hx50_8
         try clear hx57_0
         try clear hx57_1
         try clear hx57_2
         try clear hx57_3
         try clear hx57_4
         try clear hx57_5
         try clear hx57_6
         try clear hx57_7
         try clear hx57_8
         try clear hx60_0
         try clear hx60_1
         try clear hx60_2
         try clear hx60_3
         try clear hx60_4
         try clear hx60_5
         try clear hx60_6
         try clear hx60_7
         try clear hx60_8
         try clear p2
         try clear p3
         try clear p33
         try clear p339
         try clear p35
         try clear p357
         try clear p359
         try clear p4
         try clear p49
         try clear p5
         try clear p50
         try clear p6
         try clear q3
         try clear q33
         try clear q339
         try clear q35
         try clear q357
         try clear q359
         try clear q4
         try clear q49
         try clear q5
         try clear q50
         obtain ⟨kq, x93_61, x1001_61, rfl, HA, HJ61, HO_5, HI0, HK, HB⟩ := hcut
         cases kq with
         | zero => exact absurd HA.out (by simp [spec_l20Results.j3])
         | succ kj61 =>
          have H := HA.out
          clear HA
          simp only [spec_l20Results.j3] at H
          have HC68 := Aside0.mk H
          clear H
          go_upto_if 93 with (fail)
          go_cut [] (fun wc => ∃ (kq : Nat) (x5_67 : List (S42)) (x1001_67 : Int), Aside0 (spec_l20Results.j4 kq a1 x5_67 s0_0 x1001_67 = some (r1, r2)) ∧ Aside0 (kq ≤ kj61) ∧ Aside0 (Kd.R k42 42 wc w.heap.size (fun _ => True) u5 x5_67) ∧ Aside0 (IsS147 w0 wc g s0_0 x1001_67) ∧ Aside0 (KeepBut w wc g none) ∧ Aside0 (Below w0.heap.size w0 wc))
          case first =>
           have H := HC68.out
           clear HC68
           by_cases c69 : x93_61 = true
           ·
            subst c69
            have H1 : ((spec_l20Rd_pick.f kj61 s0_0 x1001_61 (x5_42.length : Int)).bind fun bt364 => ((spec_l20Reply.f kj61 s0_0 bt364.2 0).bind fun bt366 => (if 0 ≤ bt364.1 then (if bt364.1 < (x5_42.length : Int) then (spec_l20Results.j4 kj61 a1 (x5_42.set (bt364.1 : Int).toNat (⟨(rd_T42 x5_42 bt364.1).f0, (rd_T42 x5_42 bt364.1).f1, (⟨(rd_T42 x5_42 bt364.1).f2.f0, (rd_T42 x5_42 bt364.1).f2.f1, (rd_T42 x5_42 bt364.1).f2.f2, (rd_T42 x5_42 bt364.1).f2.f3⟩ : S40), bt366.1, (rd_T42 x5_42 bt364.1).f4, (rd_T42 x5_42 bt364.1).f5⟩ : S42)) s0_0 bt366.2) else (none)) else (none)))) = some (r1, r2) := by rw [if_pos rfl] at H; exact H
            clear H
            have H := H1
            clear H1
            replace H := Option.bind_eq_some_iff.mp H
            obtain ⟨⟨t364, t365⟩, A700, H⟩ := H
            replace H : ((spec_l20Reply.f kj61 s0_0 t365 0).bind fun bt366 => (if 0 ≤ t364 then (if t364 < (x5_42.length : Int) then (spec_l20Results.j4 kj61 a1 (x5_42.set (t364 : Int).toNat (⟨(rd_T42 x5_42 t364).f0, (rd_T42 x5_42 t364).f1, (⟨(rd_T42 x5_42 t364).f2.f0, (rd_T42 x5_42 t364).f2.f1, (rd_T42 x5_42 t364).f2.f2, (rd_T42 x5_42 t364).f2.f3⟩ : S40), bt366.1, (rd_T42 x5_42 t364).f4, (rd_T42 x5_42 t364).f5⟩ : S42)) s0_0 bt366.2) else (none)) else (none))) = some (r1, r2) := H
            have A70 := Aside0.mk A700
            clear A700
            replace H := Option.bind_eq_some_iff.mp H
            obtain ⟨⟨t366, t367⟩, A710, H⟩ := H
            replace H : (if 0 ≤ t364 then (if t364 < (x5_42.length : Int) then (spec_l20Results.j4 kj61 a1 (x5_42.set (t364 : Int).toNat (⟨(rd_T42 x5_42 t364).f0, (rd_T42 x5_42 t364).f1, (⟨(rd_T42 x5_42 t364).f2.f0, (rd_T42 x5_42 t364).f2.f1, (rd_T42 x5_42 t364).f2.f2, (rd_T42 x5_42 t364).f2.f3⟩ : S40), t366, (rd_T42 x5_42 t364).f4, (rd_T42 x5_42 t364).f5⟩ : S42)) s0_0 t367) else (none)) else (none)) = some (r1, r2) := H
            have A71 := Aside0.mk A710
            clear A710
            by_cases c72 : 0 ≤ t364
            ·
             rw [if_pos c72] at H
             have c72b0 : decide (0 ≤ t364) = true := decide_eq_true c72
             clear c72
             (first | rw [c72b0] | (simp only [i64_w, i32_w]; rw [c72b0]) | skip)
             by_cases c73 : t364 < (x5_42.length : Int)
             ·
              rw [if_pos c73] at H
              have c73b0 : decide (t364 < (x5_42.length : Int)) = true := decide_eq_true c73
              clear c73
              obtain ⟨y368, hy368⟩ : ∃ y_ : List (S42), y_ = (x5_42.set (t364 : Int).toNat (⟨(rd_T42 x5_42 t364).f0, (rd_T42 x5_42 t364).f1, (⟨(rd_T42 x5_42 t364).f2.f0, (rd_T42 x5_42 t364).f2.f1, (rd_T42 x5_42 t364).f2.f2, (rd_T42 x5_42 t364).f2.f3⟩ : S40), t366, (rd_T42 x5_42 t364).f4, (rd_T42 x5_42 t364).f5⟩ : S42)) := ⟨_, rfl⟩
              replace H : (spec_l20Results.j4 kj61 a1 y368 s0_0 t367) = some (r1, r2) := by first | (rw [hy368]; with_reducible exact H) | (have H2_ := (Option.bind_some _ _).symm.trans H; rw [hy368]; with_reducible exact H2_) | (have H2_ := (Option.bind_some _ _).symm.trans H; with_reducible exact H2_) | with_reducible exact H | (rw [hy368]; exact H) | exact H
              have Ny368 := Aside0.mk hy368
              clear hy368
              have H' := Aside0.mk H
              clear H
              obtain ⟨Ao75, co75, eo75⟩ := Kd.R_slice HO_5.out
              subst eo75
              go_wp2_with (first | ((with_reducible refine gate_callee (f := 78) rfl ?_); refine gsl (some 98) rfl Try.func78 #[.pointer (some ⟨g, 0, none⟩), .int .i64 (x5_42.length : Int)] rfl ?_; (with_reducible refine (spec_l20Rd_pick.calls kj61 g s0_0 x1001_61 (x5_42.length : Int) t364 t365 w0 _ ?side1 ?side2 A70.out).mono ?_); (case side1 => exact spec_l20Results.s1 HI0.out); (case side2 => exact spec_l20Results.s2 HB.out HI0.out); rintro e w76 ⟨rfl, hi, hb, hk⟩; refine ⟨_, rfl, ?_⟩; have n0_ := Aside0.mk (Kd.R_mono (Kd.R_keep (IsS147.apart (show IsS147 w0 _ g s0_0 x1001_61 from spec_l20Results.s1 HI0.out) (kr HO_5.out) (by decide)) hk (fun _ h => h.2)) (fun _ h => h.1)); have n1_ := Aside0.mk (KeepBut.trans (spec_l20Results.s0 HK.out) hk (.inl rfl)); have n2_ := Aside0.mk (hb); have n3_ := Aside0.mk (hi); clear HO_5; clear HK; clear HB; clear HI0; have HO_5 := n0_; have HK := n1_; have HB := n2_; have HI0 := n3_; clear n0_ n1_ n2_ n3_; (try clear hb); (try clear hb2); (try clear hk); (try clear hi)) | ((with_reducible refine gate_callee (f := 131) rfl ?_); refine gsl (some 100) rfl Try.func131 #[.pointer (some ⟨g, 0, none⟩), .int .i64 0] rfl ?_; (with_reducible refine (spec_l20Reply.calls kj61 g s0_0 t365 0 t366 t367 w0 _ ?side1 ?side2 A71.out).mono ?_); (case side1 => exact spec_l20Results.s1 HI0.out); (case side2 => exact spec_l20Results.s2 HB.out HI0.out); rintro e w77 ⟨rfl, hi, hb, hk⟩; refine ⟨_, rfl, ?_⟩; have n0_ := Aside0.mk (Kd.R_mono (Kd.R_keep (IsS147.apart (show IsS147 w0 _ g s0_0 t365 from spec_l20Results.s1 HI0.out) (kr HO_5.out) (by decide)) hk (fun _ h => h.2)) (fun _ h => h.1)); have n1_ := Aside0.mk (KeepBut.trans (spec_l20Results.s0 HK.out) hk (.inl rfl)); have n2_ := Aside0.mk (hb); have n3_ := Aside0.mk (hi); clear HO_5; clear HK; clear HB; clear HI0; have HO_5 := n0_; have HK := n1_; have HB := n2_; have HI0 := n3_; clear n0_ n1_ n2_ n3_; (try clear hb); (try clear hb2); (try clear hk); (try clear hi); have p74 : 0 ≤ (t364 : Int) := of_decide_eq_true (by first | (with_reducible assumption) | assumption); have q74 : (t364 : Int) < ((x5_42.length : Int) : Int) := of_decide_eq_true (by first | (with_reducible assumption) | assumption); obtain ⟨go74, co74, eo74, gb74, gl74, cl74, HG74⟩ := Kd.R_form HO_5.out (by omega); (first | cases eo74 | (injection eo74 with ea_ en_ ec_; (first | subst ea_ | (injection ea_ with ea_; subst ea_)); subst ec_; clear en_)); have GB74 := Aside0.mk gb74; have GG74 := Aside0.mk HG74; clear gb74 gl74 HG74; obtain ⟨ce74, hcl74, hM74, hcc74, hfr74⟩ := Kd.R_elem HO_5.out z42 (t364 : Int) p74 q74; obtain rfl := k42_openM hM74; have hx74_0 : w77.cell? ⟨go74, (t364 : Int).toNat * 9, none⟩ = some (.int .i64 ((rd_T42 x5_42 t364).f0)) := hcc74 0 _ rfl; have hx74_1 : w77.cell? ⟨go74, (t364 : Int).toNat * 9 + 1, none⟩ = some (.int .i64 ((rd_T42 x5_42 t364).f1)) := hcc74 1 _ rfl; have hx74_2 : w77.cell? ⟨go74, (t364 : Int).toNat * 9 + 2, none⟩ = some (.int .i64 ((rd_T42 x5_42 t364).f2.f0)) := hcc74 2 _ rfl; have hx74_3 : w77.cell? ⟨go74, (t364 : Int).toNat * 9 + 3, none⟩ = some (.string ((rd_T42 x5_42 t364).f2.f1)) := hcc74 3 _ rfl; have hx74_4 : w77.cell? ⟨go74, (t364 : Int).toNat * 9 + 4, none⟩ = some (.int .i64 ((rd_T42 x5_42 t364).f2.f2)) := hcc74 4 _ rfl; have hx74_5 : w77.cell? ⟨go74, (t364 : Int).toNat * 9 + 5, none⟩ = some (.int .i64 ((rd_T42 x5_42 t364).f2.f3)) := hcc74 5 _ rfl; have hx74_6 : w77.cell? ⟨go74, (t364 : Int).toNat * 9 + 6, none⟩ = some (.int .i64 ((rd_T42 x5_42 t364).f3)) := hcc74 6 _ rfl; have hx74_7 : w77.cell? ⟨go74, (t364 : Int).toNat * 9 + 7, none⟩ = some (.int .i64 ((rd_T42 x5_42 t364).f4)) := hcc74 7 _ rfl; have hx74_8 : w77.cell? ⟨go74, (t364 : Int).toNat * 9 + 8, none⟩ = some (.int .i64 ((rd_T42 x5_42 t364).f5)) := hcc74 8 _ rfl; have hf74_0 : w77.frozen? ⟨go74, (t364 : Int).toNat * 9, none⟩ = false := hfr74 0; have hf74_1 : w77.frozen? ⟨go74, (t364 : Int).toNat * 9 + 1, none⟩ = false := hfr74 1; have hf74_2 : w77.frozen? ⟨go74, (t364 : Int).toNat * 9 + 2, none⟩ = false := hfr74 2; have hf74_3 : w77.frozen? ⟨go74, (t364 : Int).toNat * 9 + 3, none⟩ = false := hfr74 3; have hf74_4 : w77.frozen? ⟨go74, (t364 : Int).toNat * 9 + 4, none⟩ = false := hfr74 4; have hf74_5 : w77.frozen? ⟨go74, (t364 : Int).toNat * 9 + 5, none⟩ = false := hfr74 5; have hf74_6 : w77.frozen? ⟨go74, (t364 : Int).toNat * 9 + 6, none⟩ = false := hfr74 6; have hf74_7 : w77.frozen? ⟨go74, (t364 : Int).toNat * 9 + 7, none⟩ = false := hfr74 7; have hf74_8 : w77.frozen? ⟨go74, (t364 : Int).toNat * 9 + 8, none⟩ = false := hfr74 8; clear hcl74 hcc74 hfr74 hM74; replace p74 := eq_true p74; replace q74 := eq_true q74; have HX78 := Aside0.mk (show Kd.R k42 42 w77 w.heap.size (fun _ => True) (.slice (some ⟨go74, 0, none⟩) x5_42.length co75) x5_42 from (kr HO_5.out)); obtain ⟨ce78, hcl78, hM78, hcc78, hfr78⟩ := Kd.R_elem HX78.out z42 (t364 : Int) (of_decide_eq_true (by first | (with_reducible assumption) | assumption)) (by have h_ : (t364 : Int) < ((x5_42.length : Int) : Int) := of_decide_eq_true (by first | (with_reducible assumption) | assumption); first | exact h_ | (have e_ := (Kd.R_reads' HO_5.out).1; omega) | simpa using h_); obtain rfl := k42_openM hM78; have HP78 := Kd.R_seg HX78.out (t364 : Int) (of_decide_eq_true (by first | (with_reducible assumption) | assumption)) (by have h_ : (t364 : Int) < ((x5_42.length : Int) : Int) := of_decide_eq_true (by first | (with_reducible assumption) | assumption); first | exact h_ | (have e_ := (Kd.R_reads' HO_5.out).1; omega) | simpa using h_) (seg := [.int .i64 t366]) (j := 6) hcl78 hcc78 (show 7 ≤ 9 from by decide) (x' := (⟨(rd_T42 x5_42 t364).f0, (rd_T42 x5_42 t364).f1, (⟨(rd_T42 x5_42 t364).f2.f0, (rd_T42 x5_42 t364).f2.f1, (rd_T42 x5_42 t364).f2.f2, (rd_T42 x5_42 t364).f2.f3⟩ : S40), t366, (rd_T42 x5_42 t364).f4, (rd_T42 x5_42 t364).f5⟩ : S42)) (k42_mkM _ _ _ (⟨(rd_T42 x5_42 t364).f0, (rd_T42 x5_42 t364).f1, (⟨(rd_T42 x5_42 t364).f2.f0, (rd_T42 x5_42 t364).f2.f1, (rd_T42 x5_42 t364).f2.f2, (rd_T42 x5_42 t364).f2.f3⟩ : S40), t366, (rd_T42 x5_42 t364).f4, (rd_T42 x5_42 t364).f5⟩ : S42) ) (fun _ hk => hk); have hx78_6 := hcc78 6 _ rfl; (try simp only [show (k42).sz = 9 from rfl, Nat.mul_one, Nat.add_zero] at hx78_6); have hf78_6 := hfr78 6; (try simp only [show (k42).sz = 9 from rfl, Nat.mul_one, Nat.add_zero] at hf78_6); clear hcl78 hcc78 hfr78 hM78) | ((with_reducible refine gate_store (t := 3) (p := 102) rfl ?_); refine store_event (t := 3) (p := 102) (v := ?vo_w79) (w1 := (w77.setCell ⟨go74, (t364 : Int).toNat * 9 + 6, none⟩ (.int .i64 t366))) ?hg ?ho ?hn ?hr ?_; (case ho => rfl); (case hg => rfl); (case hn => rfl); (case hr => first | (go_simp; done) | (go_simp; rfl)); intro w79 hw; have hg : w77.grownBy w79 (some go74) := (by rw [hw]; exact HP78.2); have hp_ : Kd.R k42 42 w79 w.heap.size (fun _ => True) (.slice (some ⟨go74, 0, none⟩) x5_42.length co75) y368 := (by rw [hw, Ny368.out]; exact HP78.1); clear HP78; have n0_ := Aside0.mk (hp_); have n1_ := Aside0.mk (IsS147.grown (spec_l20Results.s1 HI0.out) hg (IsS147.own_ne HI0.out HO_5.out (by decide))); have n2_ := Aside0.mk ((by rw [hw]; exact below_set (HB.out) (Nat.le_trans HL.out GB74.out) : Below w0.heap.size w0 w79)); have n3_ := Aside0.mk (KeepBut.trans (spec_l20Results.s0 HK.out) (KeepBut.of_grown hg g) (Kd.R_base2 HO_5.out)); clear HO_5; clear HI0; clear HB; clear HK; have HO_5 := n0_; have HI0 := n1_; have HB := n2_; have HK := n3_; clear n0_ n1_ n2_ n3_; clear hg hw hp_))
              go_meet
              case rel => exact ⟨_, (y368), (t367), H', ⟨by have := HK1.out; have := HJ36.out; have := HJ42.out; have := HJ61.out; first | omega | exact Nat.le_refl _⟩, ⟨by (with_reducible repeat (first | apply Kd.R_alloc | apply Kd.R_drewN | apply Kd.R_drew)); exact HO_5.out⟩, ⟨spec_l20Results.s1 HI0.out⟩, ⟨spec_l20Results.s0 HK.out⟩, ⟨spec_l20Results.s2 HB.out HI0.out⟩⟩
             ·
              rw [if_neg c73] at H
              exact absurd H (by simp)
            ·
             rw [if_neg c72] at H
             exact absurd H (by simp)
           ·
            replace c69 := Bool.eq_false_iff.mpr c69
            subst c69
            have H1 : (spec_l20Results.j4 kj61 a1 x5_42 s0_0 x1001_61) = some (r1, r2) := by rw [if_neg (show ¬ (false = true) by decide)] at H; exact H
            clear H
            have H := H1
            clear H1
            have H' := Aside0.mk H
            clear H
            go_wp2
            go_meet
            case rel => exact ⟨_, (x5_42), (x1001_61), H', ⟨by have := HK1.out; have := HJ36.out; have := HJ42.out; have := HJ61.out; first | omega | exact Nat.le_refl _⟩, ⟨by (with_reducible repeat (first | apply Kd.R_alloc | apply Kd.R_drewN | apply Kd.R_drew)); exact HO_5.out⟩, ⟨spec_l20Results.s1 HI0.out⟩, ⟨spec_l20Results.s0 HK.out⟩, ⟨spec_l20Results.s2 HB.out HI0.out⟩⟩
          case rest =>
           clear HC68
           try clear c1
           try clear c2
           try clear p2
           try clear c3
           try clear p3
           try clear q3
           try clear hx3
           try clear qi3
           try clear c4
           try clear p4
           try clear q4
           try clear hx4
           try clear qi4
           try clear hf4
           try clear c5
           try clear p5
           try clear q5
           try clear hx5
           try clear hf5
           try clear c6
           try clear p6
           try clear hx6
           try clear hf6
           try clear c7
           try clear p7
           try clear q7
           try clear hx7
           try clear hf7
           try clear c9
           try clear c9b0
           try clear c12
           try clear c13
           try clear c13b0
           try clear c14
           try clear c14b0
           try clear c20
           try clear c23
           try clear p33
           try clear q33
           try clear hx33
           try clear p35
           try clear q35
           try clear hx35
           try clear qi35
           try clear c38
           try clear c38b0
           try clear c38b1
           try clear c44
           try clear c46
           try clear c46b0
           try clear c46b1
           try clear c47
           try clear c47b0
           try clear c48
           try clear c48b0
           try clear c49
           try clear p49
           try clear q49
           try clear hx49
           try clear qi49
           try clear hf49
           try clear c50
           try clear p50
           try clear q50
           try clear hx50
           try clear hf50
           try clear c54
           try clear c57
           try clear hx57
           try clear hf57
           try clear c60
           try clear hx60
           try clear hf60
           try clear c63
           try clear c63b0
           try clear c63b1
           try clear p64
           try clear c69
           try clear c72
           try clear c72b0
           try clear c73
           try clear c73b0
           try clear c74
           try clear p74
           try clear q74
           try clear hx74
           try clear hf74
           try clear c78
           try clear hx78
           try clear hf78
           try clear hcz24_0
           try clear hcz24_1
           try clear hcz24_2
           try clear hcz24_3
           try clear hcz29_0
           try clear hcz29_1
           try clear hcz29_2
           try clear hcz29_3
           try clear hcz55_0
           try clear hcz55_1
           try clear hcz55_2
           try clear hcz55_3
           try clear hcz55_4
           try clear hcz55_5
           try clear hcz55_6
           try clear hcz55_7
           try clear hcz55_8
           try clear hcz59_0
           try clear hcz59_1
           try clear hcz59_2
           try clear hcz59_3
           try clear hcz59_4
           try clear hcz59_5
           try clear hcz59_6
           try clear hcz59_7
           try clear hcz59_8
           try clear hfz24_0
           try clear hfz24_1
           try clear hfz24_2
           try clear hfz24_3
           try clear hfz29_0
           try clear hfz29_1
           try clear hfz29_2
           try clear hfz29_3
           try clear hfz55_0
           try clear hfz55_1
           try clear hfz55_2
           try clear hfz55_3
           try clear hfz55_4
           try clear hfz55_5
           try clear hfz55_6
           try clear hfz55_7
           try clear hfz55_8
           try clear hfz59_0
           try clear hfz59_1
           try clear hfz59_2
           try clear hfz59_3
           try clear hfz59_4
           try clear hfz59_5
           try clear hfz59_6
           try clear hfz59_7
           try clear hfz59_8
           try clear hx339_0
           try clear hx357_0
           try clear hx357_1
           try clear hx357_2
           try clear hx357_3
           try clear hx357_4
           try clear hx357_5
           try clear hx357_6
           try clear hx357_7
           try clear hx357_8
           try clear hx359_0
           try clear hx359_1
           try clear hx359_2
           try clear hx359_3
           try clear hx359_4
           try clear hx359_5
           try clear hx359_6
           try clear hx359_7
           try clear hx359_8
           try clear hx49_0
           try clear hx49_1
           try clear hx49_2
           try clear hx49_3
           try clear hx49_4
           try clear hx49_5
           try clear hx49_6
           try clear hx49_7
           try clear hx49_8
           try clear hx50_0
           try clear hx50_1
           try clear hx50_2
           try clear hx50_3
           try clear hx50_4
           try clear hx50_5
           try clear hx50_6
           try clear hx50_7
           try clear hx50_8
           try clear hx57_0
           try clear hx57_1
           try clear hx57_2
           try clear hx57_3
           try clear hx57_4
           try clear hx57_5
           try clear hx57_6
           try clear hx57_7
           try clear hx57_8
           try clear hx60_0
           try clear hx60_1
           try clear hx60_2
           try clear hx60_3
           try clear hx60_4
           try clear hx60_5
           try clear hx60_6
           try clear hx60_7
           try clear hx60_8
           try clear hx74_0
           try clear hx74_1
           try clear hx74_2
           try clear hx74_3
           try clear hx74_4
           try clear hx74_5
           try clear hx74_6
           try clear hx74_7
           try clear hx74_8
           try clear hx78_6
           try clear p2
           try clear p3
           try clear p33
           try clear p339
           try clear p35
           try clear p357
           try clear p359
           try clear p4
           try clear p49
           try clear p5
           try clear p50
           try clear p6
           try clear p64
           try clear p74
           try clear q3
           try clear q33
           try clear q339
           try clear q35
           try clear q357
           try clear q359
           try clear q4
           try clear q49
           try clear q5
           try clear q50
           try clear q74
           obtain ⟨kq, x5_67, x1001_67, HA, HJ67, HO_5, HI0, HK, HB⟩ := hcut
           cases kq with
           | zero => exact absurd HA.out (by simp [spec_l20Results.j4])
           | succ kj67 =>
            have H := HA.out
            clear HA
            simp only [spec_l20Results.j4] at H
            replace H := Option.bind_eq_some_iff.mp H
            obtain ⟨⟨t369, t370⟩, A800, H⟩ := H
            replace H : (if t369 = true then ((spec_l20Rd_pick.f kj67 s0_0 t370 4).bind fun bt371 => ((spec_l20Any.f kj67 s0_0 bt371.2 0).bind fun bt373 => ((spec_l20Rd_pick.f kj67 s0_0 bt373.2.2.2.2 2).bind fun bt378 => (if x5_67.length < 1759218604441 then (some ((x5_67 ++ [(⟨bt371.1, 1, (⟨bt373.1, bt373.2.1, bt373.2.2.1, bt373.2.2.2.1⟩ : S40), 0, bt378.1, 0⟩ : S42)]), bt378.2)) else (none))))) else (some (x5_67, t370))) = some (r1, r2) := H
            have A80 := Aside0.mk A800
            clear A800
            by_cases c81 : t369 = true
            ·
             subst c81
             have H1 : ((spec_l20Rd_pick.f kj67 s0_0 t370 4).bind fun bt371 => ((spec_l20Any.f kj67 s0_0 bt371.2 0).bind fun bt373 => ((spec_l20Rd_pick.f kj67 s0_0 bt373.2.2.2.2 2).bind fun bt378 => (if x5_67.length < 1759218604441 then (some ((x5_67 ++ [(⟨bt371.1, 1, (⟨bt373.1, bt373.2.1, bt373.2.2.1, bt373.2.2.2.1⟩ : S40), 0, bt378.1, 0⟩ : S42)]), bt378.2)) else (none))))) = some (r1, r2) := by rw [if_pos rfl] at H; exact H
             clear H
             have H := H1
             clear H1
             replace H := Option.bind_eq_some_iff.mp H
             obtain ⟨⟨t371, t372⟩, A820, H⟩ := H
             replace H : ((spec_l20Any.f kj67 s0_0 t372 0).bind fun bt373 => ((spec_l20Rd_pick.f kj67 s0_0 bt373.2.2.2.2 2).bind fun bt378 => (if x5_67.length < 1759218604441 then (some ((x5_67 ++ [(⟨t371, 1, (⟨bt373.1, bt373.2.1, bt373.2.2.1, bt373.2.2.2.1⟩ : S40), 0, bt378.1, 0⟩ : S42)]), bt378.2)) else (none)))) = some (r1, r2) := H
             have A82 := Aside0.mk A820
             clear A820
             replace H := Option.bind_eq_some_iff.mp H
             obtain ⟨⟨t373, t374, t375, t376, t377⟩, A830, H⟩ := H
             replace H : ((spec_l20Rd_pick.f kj67 s0_0 t377 2).bind fun bt378 => (if x5_67.length < 1759218604441 then (some ((x5_67 ++ [(⟨t371, 1, (⟨t373, t374, t375, t376⟩ : S40), 0, bt378.1, 0⟩ : S42)]), bt378.2)) else (none))) = some (r1, r2) := H
             have A83 := Aside0.mk A830
             clear A830
             replace H := Option.bind_eq_some_iff.mp H
             obtain ⟨⟨t378, t379⟩, A840, H⟩ := H
             replace H : (if x5_67.length < 1759218604441 then (some ((x5_67 ++ [(⟨t371, 1, (⟨t373, t374, t375, t376⟩ : S40), 0, t378, 0⟩ : S42)]), t379)) else (none)) = some (r1, r2) := H
             have A84 := Aside0.mk A840
             clear A840
             by_cases c85 : x5_67.length < 1759218604441
             ·
              rw [if_pos c85] at H
              have LMc85 := Aside0.mk c85
              clear c85
              obtain ⟨y380, hy380⟩ : ∃ y_ : List (S42), y_ = (x5_67 ++ [(⟨t371, 1, (⟨t373, t374, t375, t376⟩ : S40), 0, t378, 0⟩ : S42)]) := ⟨_, rfl⟩
              replace H : (some (y380, t379)) = some (r1, r2) := by first | (rw [hy380]; with_reducible exact H) | (have H2_ := (Option.bind_some _ _).symm.trans H; rw [hy380]; with_reducible exact H2_) | (have H2_ := (Option.bind_some _ _).symm.trans H; with_reducible exact H2_) | with_reducible exact H | (rw [hy380]; exact H) | exact H
              have Ny380 := Aside0.mk hy380
              clear hy380
              simp only [Option.some.injEq, Prod.mk.injEq] at H
              obtain ⟨rfl, rfl⟩ := H
              go_wp2_with (first | ((with_reducible refine gate_callee (f := 125) rfl ?_); refine gsl (some 105) rfl Try.func125 #[.pointer (some ⟨g, 0, none⟩), .int .i64 a1] rfl ?_; (with_reducible refine (spec_l20Rd_odd.calls kj67 g s0_0 x1001_67 a1 true t370 w0 _ ?side1 ?side2 A80.out).mono ?_); (case side1 => exact spec_l20Results.s1 HI0.out); (case side2 => exact spec_l20Results.s2 HB.out HI0.out); rintro e w86 ⟨rfl, hi, hb, hk⟩; refine ⟨_, rfl, ?_⟩; have n0_ := Aside0.mk (Kd.R_mono (Kd.R_keep (IsS147.apart (show IsS147 w0 _ g s0_0 x1001_67 from spec_l20Results.s1 HI0.out) (kr HO_5.out) (by decide)) hk (fun _ h => h.2)) (fun _ h => h.1)); have n1_ := Aside0.mk (KeepBut.trans (spec_l20Results.s0 HK.out) hk (.inl rfl)); have n2_ := Aside0.mk (hb); have n3_ := Aside0.mk (hi); clear HO_5; clear HK; clear HB; clear HI0; have HO_5 := n0_; have HK := n1_; have HB := n2_; have HI0 := n3_; clear n0_ n1_ n2_ n3_; (try clear hb); (try clear hb2); (try clear hk); (try clear hi)) | ((with_reducible refine gate_callee (f := 78) rfl ?_); refine gsl (some 108) rfl Try.func78 #[.pointer (some ⟨g, 0, none⟩), .int .i64 4] rfl ?_; (with_reducible refine (spec_l20Rd_pick.calls kj67 g s0_0 t370 4 t371 t372 w0 _ ?side1 ?side2 A82.out).mono ?_); (case side1 => exact spec_l20Results.s1 HI0.out); (case side2 => exact spec_l20Results.s2 HB.out HI0.out); rintro e w87 ⟨rfl, hi, hb, hk⟩; refine ⟨_, rfl, ?_⟩; have n0_ := Aside0.mk (Kd.R_mono (Kd.R_keep (IsS147.apart (show IsS147 w0 _ g s0_0 t370 from spec_l20Results.s1 HI0.out) (kr HO_5.out) (by decide)) hk (fun _ h => h.2)) (fun _ h => h.1)); have n1_ := Aside0.mk (KeepBut.trans (spec_l20Results.s0 HK.out) hk (.inl rfl)); have n2_ := Aside0.mk (hb); have n3_ := Aside0.mk (hi); clear HO_5; clear HK; clear HB; clear HI0; have HO_5 := n0_; have HK := n1_; have HB := n2_; have HI0 := n3_; clear n0_ n1_ n2_ n3_; (try clear hb); (try clear hb2); (try clear hk); (try clear hi)) | ((with_reducible refine gate_callee (f := 132) rfl ?_); refine gsl (some 110) rfl Try.func132 #[.pointer (some ⟨g, 0, none⟩), .int .i64 0] rfl ?_; (with_reducible refine (spec_l20Any.calls kj67 g s0_0 t372 0 t373 t374 t375 t376 t377 w0 _ ?side1 ?side2 A83.out).mono ?_); (case side1 => exact spec_l20Results.s1 HI0.out); (case side2 => exact spec_l20Results.s2 HB.out HI0.out); rintro e w88 ⟨rfl, hi, hb, hk⟩; refine ⟨_, rfl, ?_⟩; have n0_ := Aside0.mk (Kd.R_mono (Kd.R_keep (IsS147.apart (show IsS147 w0 _ g s0_0 t372 from spec_l20Results.s1 HI0.out) (kr HO_5.out) (by decide)) hk (fun _ h => h.2)) (fun _ h => h.1)); have n1_ := Aside0.mk (KeepBut.trans (spec_l20Results.s0 HK.out) hk (.inl rfl)); have n2_ := Aside0.mk (hb); have n3_ := Aside0.mk (hi); clear HO_5; clear HK; clear HB; clear HI0; have HO_5 := n0_; have HK := n1_; have HB := n2_; have HI0 := n3_; clear n0_ n1_ n2_ n3_; (try clear hb); (try clear hb2); (try clear hk); (try clear hi)) | ((with_reducible refine gate_callee (f := 78) rfl ?_); refine gsl (some 112) rfl Try.func78 #[.pointer (some ⟨g, 0, none⟩), .int .i64 2] rfl ?_; (with_reducible refine (spec_l20Rd_pick.calls kj67 g s0_0 t377 2 t378 t379 w0 _ ?side1 ?side2 A84.out).mono ?_); (case side1 => exact spec_l20Results.s1 HI0.out); (case side2 => exact spec_l20Results.s2 HB.out HI0.out); rintro e w89 ⟨rfl, hi, hb, hk⟩; refine ⟨_, rfl, ?_⟩; have n0_ := Aside0.mk (Kd.R_mono (Kd.R_keep (IsS147.apart (show IsS147 w0 _ g s0_0 t377 from spec_l20Results.s1 HI0.out) (kr HO_5.out) (by decide)) hk (fun _ h => h.2)) (fun _ h => h.1)); have n1_ := Aside0.mk (KeepBut.trans (spec_l20Results.s0 HK.out) hk (.inl rfl)); have n2_ := Aside0.mk (hb); have n3_ := Aside0.mk (hi); clear HO_5; clear HK; clear HB; clear HI0; have HO_5 := n0_; have HK := n1_; have HB := n2_; have HI0 := n3_; clear n0_ n1_ n2_ n3_; (try clear hb); (try clear hb2); (try clear hk); (try clear hi)) | ((with_reducible refine gate_builtin (b := .append) (xs := #[.tmp 106, .tmp 114]) rfl ?_); at_builtin; refine Kd.R_append k42 w.heap.size rfl (.tmp 106) (.tmp 114) 32 42 (.agg #[(.int .i64 0), (.int .i64 0), (.int .i64 0), (.string ⟨#[]⟩), (.int .i64 0), (.int .i64 0), (.int .i64 0), (.int .i64 0), (.int .i64 0)]) 80 rfl Try.underlying32 info42 rfl (by decide) (by omega) u5 x5_67 (⟨t371, 1, (⟨t373, t374, t375, t376⟩ : S40), 0, t378, 0⟩ : S42) [.int .i64 t371, .int .i64 1, .int .i64 t373, .string t374, .int .i64 t375, .int .i64 t376, .int .i64 0, .int .i64 t378, .int .i64 0] (fun _ => True) (fun _ => False) rfl rfl ?aP (fun _ hk => hk.elim) ?aF ?aO (Below.refl _ _) ?aS ?aL ?_; (case aP => exact k42_mkM _ _ _ (⟨t371, 1, (⟨t373, t374, t375, t376⟩ : S40), 0, t378, 0⟩ : S42)); (case aF => exact (fun _ _ => trivial)); (case aO => exact (kr HO_5.out)); (case aS => exact (keep_size (w := w) (g := g) (row := none) (spec_l20Results.s0 HK.out))); (case aL => have := LMc85.out; omega); intro v381 w90 ho hb hg hat; rw [← Ny380.out] at ho; have n0_ := Aside0.mk (IsS147.grown (spec_l20Results.s1 HI0.out) hg (IsS147.own_ne HI0.out HO_5.out (by decide))); have n1_ := Aside0.mk (below_weaken (spec_l20Results.s2 HB.out HI0.out) HL.out hb); have n2_ := Aside0.mk (KeepBut.trans (spec_l20Results.s0 HK.out) (KeepBut.of_grown hg g) (Kd.R_base2 HO_5.out)); have n3_ := Aside0.mk (ho); clear HI0; clear HB; clear HK; clear HO_5; have HI0 := n0_; have HB := n1_; have HK := n2_; have HO382 := n3_; clear n0_ n1_ n2_ n3_; clear ho hb hg hat))
              go_ret
              exact ⟨_, fe, by (with_reducible repeat (first | apply Kd.R_alloc | apply Kd.R_drewN | apply Kd.R_drew)); exact HO382.out, spec_l20Results.s1 HI0.out, spec_l20Results.s2 HB.out HI0.out, spec_l20Results.s0 HK.out⟩
             ·
              rw [if_neg c85] at H
              exact absurd H (by simp)
            ·
             replace c81 := Bool.eq_false_iff.mpr c81
             subst c81
             have H1 : (some (x5_67, t370)) = some (r1, r2) := by rw [if_neg (show ¬ (false = true) by decide)] at H; exact H
             clear H
             have H := H1
             clear H1
             simp only [Option.some.injEq, Prod.mk.injEq] at H
             obtain ⟨rfl, rfl⟩ := H
             go_wp2_with (first | ((with_reducible refine gate_callee (f := 125) rfl ?_); refine gsl (some 105) rfl Try.func125 #[.pointer (some ⟨g, 0, none⟩), .int .i64 a1] rfl ?_; (with_reducible refine (spec_l20Rd_odd.calls kj67 g s0_0 x1001_67 a1 false t370 w0 _ ?side1 ?side2 A80.out).mono ?_); (case side1 => exact spec_l20Results.s1 HI0.out); (case side2 => exact spec_l20Results.s2 HB.out HI0.out); rintro e w91 ⟨rfl, hi, hb, hk⟩; refine ⟨_, rfl, ?_⟩; have n0_ := Aside0.mk (Kd.R_mono (Kd.R_keep (IsS147.apart (show IsS147 w0 _ g s0_0 x1001_67 from spec_l20Results.s1 HI0.out) (kr HO_5.out) (by decide)) hk (fun _ h => h.2)) (fun _ h => h.1)); have n1_ := Aside0.mk (KeepBut.trans (spec_l20Results.s0 HK.out) hk (.inl rfl)); have n2_ := Aside0.mk (hb); have n3_ := Aside0.mk (hi); clear HO_5; clear HK; clear HB; clear HI0; have HO_5 := n0_; have HK := n1_; have HB := n2_; have HI0 := n3_; clear n0_ n1_ n2_ n3_; (try clear hb); (try clear hb2); (try clear hk); (try clear hi)))
             go_ret
             exact ⟨_, fe, by (with_reducible repeat (first | apply Kd.R_alloc | apply Kd.R_drewN | apply Kd.R_drew)); exact HO_5.out, spec_l20Results.s1 HI0.out, spec_l20Results.s2 HB.out HI0.out, spec_l20Results.s0 HK.out⟩

end Go.Proofs.Ytfeeifefmenlmaa.PFnRealTime
