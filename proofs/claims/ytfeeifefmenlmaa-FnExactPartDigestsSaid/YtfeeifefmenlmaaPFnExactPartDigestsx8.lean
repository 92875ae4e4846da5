-- Written by a program of this session, in the manner of the kit's print (wip/pp.py): functions and their contracts.
import Derived.Test.YtfeeifefmenlmaaPFnExactPartDigestsx0
import Derived.Test.YtfeeifefmenlmaaPFnExactPartDigestsx5
import Derived.Test.YtfeeifefmenlmaaPFnExactPartDigestsx6
import Derived.Test.YtfeeifefmenlmaaPFnExactPartDigestsx7
namespace Go.Proofs.Ytfeeifefmenlmaa.PFnExactPartDigests
open Go.RowKit Go.Proofs.YtfeeifefmenlmaaW.PrintWords Go.Proofs.YtfeeifefmenlmaaW.PrintLast Go.Proofs.YtfeeifefmenlmaaW.PrintMore
attribute [local go_sem] binOp_leq_str binOp_gtr_str binOp_geq_str max2_int min2_int max_two min_two max_three min_three max_four min_four   -- for this text's walks alone
set_option linter.unusedVariables false
set_option linter.unusedSimpArgs false

/-! ### spec_PartitionValid: function 104 -/
mutual
def spec_PartitionValid.j0 : Nat → List (S83) → Bool → Option (Bool)
  | 0, _, _ => none
  | k + 1, x0, x33 => if x33 = true then (some false) else (spec_PartitionValid.l0 k x0 1)
def spec_PartitionValid.l0 : Nat → List (S83) → Int → Option (Bool)
  | 0, _, _ => none
  | k + 1, x0, x3 => if x3 < (x0.length : Int) then (if 0 ≤ (wrap64 (x3 - 1)) then (if (wrap64 (x3 - 1)) < (x0.length : Int) then (if 0 ≤ x3 then ((spec_IntervalJoin.f k ((rd_T83 x0 (wrap64 (x3 - 1))).f0) ((rd_T83 x0 (wrap64 (x3 - 1))).f1) ((rd_T83 x0 x3).f0) ((rd_T83 x0 x3).f1)).bind fun bt244 => (if bt244.2.2 = true then (spec_PartitionValid.l0 k x0 (wrap64 (x3 + 1))) else (some false))) else (none)) else (none)) else (none)) else (some true)
end
def spec_PartitionValid.f (k : Nat) (l0 : List (S83)) : Option (Bool) := (spec_l1In.f (l0.length : Int) 1 6).bind fun t237 => (if t237 = true then (if 0 < (l0.length : Int) then ((spec_IntervalValid.f k ((rd_T83 l0 0).f0) ((rd_T83 l0 0).f1)).bind fun t239 => (if t239 = true then (if ((rd_T83 l0 0).f0).toList = ([] : List UInt8) then (if 0 ≤ (wrap64 ((l0.length : Int) - 1)) then (if (wrap64 ((l0.length : Int) - 1)) < (l0.length : Int) then (spec_PartitionValid.j0 k l0 (((rd_T83 l0 (wrap64 ((l0.length : Int) - 1))).f1).toList != ([] : List UInt8))) else (none)) else (none)) else (spec_PartitionValid.j0 k l0 true)) else (spec_PartitionValid.j0 k l0 true))) else (none)) else (spec_PartitionValid.j0 k l0 true))
theorem spec_PartitionValid.mono_l : ∀ k, (∀ y0 y1, LeO (spec_PartitionValid.j0 k y0 y1) (spec_PartitionValid.j0 (k + 1) y0 y1)) ∧ (∀ y0 y1, LeO (spec_PartitionValid.l0 k y0 y1) (spec_PartitionValid.l0 (k + 1) y0 y1))
  | 0 => ⟨fun _ _ r h => by simp [spec_PartitionValid.j0] at h, fun _ _ r h => by simp [spec_PartitionValid.l0] at h⟩
  | k + 1 => by
    obtain ⟨ih0, ih1⟩ := spec_PartitionValid.mono_l k
    refine ⟨?_, ?_⟩
    · intro y0 y1
      unfold spec_PartitionValid.j0
      repeat' first
      | (with_reducible exact ih0 _ _)
      | (with_reducible exact ih1 _ _)
      | (with_reducible exact spec_IntervalJoin.mono _ _ _ _ _)
      | (with_reducible exact spec_IntervalValid.mono _ _ _)
      | (with_reducible exact LeO.refl _)
      | (with_reducible exact LeO.none _)
      | (with_reducible refine LeO.ite ?_ ?_)
      | (with_reducible refine LeO.bind ?_ (fun _ => ?_))
      | exact ih0 _ _
      | exact ih1 _ _
      | exact spec_IntervalJoin.mono _ _ _ _ _
      | exact spec_IntervalValid.mono _ _ _
      | exact LeO.none _
      | refine LeO.ite ?_ ?_
      | refine LeO.bind ?_ (fun _ => ?_)
    · intro y0 y1
      unfold spec_PartitionValid.l0
      repeat' first
      | (with_reducible exact ih0 _ _)
      | (with_reducible exact ih1 _ _)
      | (with_reducible exact spec_IntervalJoin.mono _ _ _ _ _)
      | (with_reducible exact spec_IntervalValid.mono _ _ _)
      | (with_reducible exact LeO.refl _)
      | (with_reducible exact LeO.none _)
      | (with_reducible refine LeO.ite ?_ ?_)
      | (with_reducible refine LeO.bind ?_ (fun _ => ?_))
      | exact ih0 _ _
      | exact ih1 _ _
      | exact spec_IntervalJoin.mono _ _ _ _ _
      | exact spec_IntervalValid.mono _ _ _
      | exact LeO.none _
      | refine LeO.ite ?_ ?_
      | refine LeO.bind ?_ (fun _ => ?_)
theorem spec_PartitionValid.mono : ∀ a0 k, LeO (spec_PartitionValid.f k a0) (spec_PartitionValid.f (k + 1) a0) := by
  intro a0 k
  obtain ⟨ih0, ih1⟩ := spec_PartitionValid.mono_l k
  unfold spec_PartitionValid.f
  repeat' first
      | (with_reducible exact ih0 _ _)
      | (with_reducible exact ih1 _ _)
      | (with_reducible exact spec_IntervalJoin.mono _ _ _ _ _)
      | (with_reducible exact spec_IntervalValid.mono _ _ _)
      | (with_reducible exact LeO.refl _)
      | (with_reducible exact LeO.none _)
      | (with_reducible refine LeO.ite ?_ ?_)
      | (with_reducible refine LeO.bind ?_ (fun _ => ?_))
      | exact ih0 _ _
      | exact ih1 _ _
      | exact spec_IntervalJoin.mono _ _ _ _ _
      | exact spec_IntervalValid.mono _ _ _
      | exact LeO.none _
      | refine LeO.ite ?_ ?_
      | refine LeO.bind ?_ (fun _ => ?_)
def spec_PartitionValid.T6 : Bool × List (List Nat × List Nat) := (true, [([], []), ([], []), ([1], [1]), ([0, 2], [0, 2]), ([3], [3]), ([], []), ([], []), ([5, 6], [5, 6]), ([7], [7]), ([4, 8], [4, 8]), ([9], [9]), ([10], [10]), ([10], [10]), ([], []), ([13, 11, 9, 0, 1, 2, 3, 4, 5, 6, 7, 8, 9, 10, 11, 13], [11, 13]), ([12, 14, 0, 1, 2, 3, 4, 5, 6, 7, 8, 9, 10, 11, 12, 13, 14], [12])])
def spec_PartitionValid.B6 : List Nat := [0, 0, 2, 7, 15, 0, 0, 96, 224, 511, 1023, 2047, 2047, 0, 12287, 32767]
theorem spec_PartitionValid.tab6 : rtab .any (opsOf Try.f104 6) = spec_PartitionValid.T6 := by kernel_rfl
theorem spec_PartitionValid.bits6 : waitsOk spec_PartitionValid.T6.2 spec_PartitionValid.B6 = true := by kernel_rfl
def spec_PartitionValid.m0 : Array Bool := #[o_, o_, o_, o_, o_, o_, o_, o_, o_, o_, o_, o_, o_, o_, o_, o_]
def spec_PartitionValid.m1 : Array Bool := #[i_, o_, o_, o_, o_, o_, o_, o_, o_, o_, o_, o_, o_, o_, o_, o_]
def spec_PartitionValid.m2 : Array Bool := #[i_, i_, o_, o_, o_, o_, o_, o_, o_, o_, o_, o_, o_, o_, o_, o_]
def spec_PartitionValid.m3 : Array Bool := #[i_, i_, i_, o_, o_, o_, o_, o_, o_, o_, o_, o_, o_, o_, o_, o_]
def spec_PartitionValid.m4 : Array Bool := #[i_, i_, i_, i_, o_, o_, o_, o_, o_, o_, o_, o_, o_, o_, o_, o_]
def spec_PartitionValid.m5 : Array Bool := #[i_, i_, i_, i_, o_, i_, o_, o_, o_, o_, o_, o_, o_, o_, o_, o_]
def spec_PartitionValid.m6 : Array Bool := #[i_, i_, i_, i_, o_, i_, i_, o_, o_, o_, o_, o_, o_, o_, o_, o_]
def spec_PartitionValid.m7 : Array Bool := #[i_, i_, i_, i_, o_, i_, i_, i_, o_, o_, o_, o_, o_, o_, o_, o_]
def spec_PartitionValid.m8 : Array Bool := #[i_, i_, i_, i_, i_, i_, i_, i_, o_, o_, o_, o_, o_, o_, o_, o_]
def spec_PartitionValid.m9 : Array Bool := #[i_, i_, i_, i_, i_, i_, i_, i_, i_, o_, o_, o_, o_, o_, o_, o_]
def spec_PartitionValid.m10 : Array Bool := #[i_, i_, i_, i_, i_, i_, i_, i_, i_, i_, i_, i_, i_, i_, o_, o_]
def spec_PartitionValid.m11 : Array Bool := #[i_, i_, i_, i_, i_, i_, i_, i_, i_, i_, o_, o_, o_, o_, o_, o_]
def spec_PartitionValid.m12 : Array Bool := #[i_, i_, i_, i_, i_, i_, i_, i_, i_, o_, o_, o_, o_, i_, o_, o_]
def spec_PartitionValid.m13 : Array Bool := #[i_, i_, i_, i_, i_, i_, i_, i_, i_, i_, i_, o_, o_, o_, o_, o_]
def spec_PartitionValid.m14 : Array Bool := #[i_, i_, i_, i_, i_, i_, i_, i_, i_, i_, i_, i_, o_, o_, o_, o_]
def spec_PartitionValid.m15 : Array Bool := #[i_, i_, i_, i_, i_, i_, i_, i_, i_, i_, i_, i_, i_, o_, o_, o_]
def spec_PartitionValid.m16 : Array Bool := #[i_, i_, i_, i_, i_, i_, i_, i_, i_, i_, o_, o_, o_, i_, o_, o_]
def spec_PartitionValid.m17 : Array Bool := #[i_, i_, i_, i_, i_, i_, i_, i_, i_, i_, i_, o_, o_, i_, o_, o_]
def spec_PartitionValid.m18 : Array Bool := #[i_, i_, i_, i_, i_, i_, i_, i_, i_, i_, i_, i_, o_, i_, o_, o_]
def spec_PartitionValid.m19 : Array Bool := #[i_, i_, i_, i_, i_, i_, i_, i_, i_, i_, i_, i_, i_, i_, i_, o_]
def spec_PartitionValid.m20 : Array Bool := #[i_, i_, i_, i_, i_, i_, i_, i_, i_, i_, i_, i_, i_, i_, i_, i_]
set_option maxHeartbeats 8000000 in
set_option maxRecDepth 100000 in
theorem spec_PartitionValid.calls (k : Nat) (A0 : Option Addr) (c0 : Nat) (l0 : List (S83)) (r : Bool) (w : World) (hr0 : Kd.C k83 w A0 l0.length l0) (hc0 : l0.length ≤ c0) (h : spec_PartitionValid.f k l0 = some r) :
    Calls Try.prog 104 #[.slice A0 l0.length c0] w fun e w' => e = .returned (.bool r) ∧ Below w.heap.size w w' := by
  have hu83 := Try.underlying83
  have HR0 := Aside0.mk hr0
  have HC0 := Aside0.mk hc0
  clear hr0 hc0
  have HB := Aside0.mk (Below.refl w.heap.size w)
  have H : ((spec_l1In.f (l0.length : Int) 1 6).bind fun t237 => (if t237 = true then (if 0 < (l0.length : Int) then ((spec_IntervalValid.f k ((rd_T83 l0 0).f0) ((rd_T83 l0 0).f1)).bind fun t239 => (if t239 = true then (if ((rd_T83 l0 0).f0).toList = ([] : List UInt8) then (if 0 ≤ (wrap64 ((l0.length : Int) - 1)) then (if (wrap64 ((l0.length : Int) - 1)) < (l0.length : Int) then (spec_PartitionValid.j0 k l0 (((rd_T83 l0 (wrap64 ((l0.length : Int) - 1))).f1).toList != ([] : List UInt8))) else (none)) else (none)) else (spec_PartitionValid.j0 k l0 true)) else (spec_PartitionValid.j0 k l0 true))) else (none)) else (spec_PartitionValid.j0 k l0 true))) = some r := h
  clear h
  have HC2 := Aside0.mk H
  clear H
  go_enter Try.func104, Try.ntmps104
  go_upto_region 1 with (fail)
  go_cut [33] (fun v33 wc => ∃ (kq : Nat) (x33_1 : Bool), v33 = .bool x33_1 ∧ Aside0 (spec_PartitionValid.j0 kq l0 x33_1 = some r) ∧ Aside0 (kq ≤ k) ∧ Aside0 (Below w.heap.size w wc))
  case first =>
    have H := HC2.out
    clear HC2
    replace H := Option.bind_eq_some_iff.mp H
    obtain ⟨t237, A30, H⟩ := H
    replace H : (if t237 = true then (if 0 < (l0.length : Int) then ((spec_IntervalValid.f k ((rd_T83 l0 0).f0) ((rd_T83 l0 0).f1)).bind fun t239 => (if t239 = true then (if ((rd_T83 l0 0).f0).toList = ([] : List UInt8) then (if 0 ≤ (wrap64 ((l0.length : Int) - 1)) then (if (wrap64 ((l0.length : Int) - 1)) < (l0.length : Int) then (spec_PartitionValid.j0 k l0 (((rd_T83 l0 (wrap64 ((l0.length : Int) - 1))).f1).toList != ([] : List UInt8))) else (none)) else (none)) else (spec_PartitionValid.j0 k l0 true)) else (spec_PartitionValid.j0 k l0 true))) else (none)) else (spec_PartitionValid.j0 k l0 true)) = some r := H
    have A3 := Aside0.mk A30
    clear A30
    by_cases c4 : t237 = true
    · subst c4
      have H1 : (if 0 < (l0.length : Int) then ((spec_IntervalValid.f k ((rd_T83 l0 0).f0) ((rd_T83 l0 0).f1)).bind fun t239 => (if t239 = true then (if ((rd_T83 l0 0).f0).toList = ([] : List UInt8) then (if 0 ≤ (wrap64 ((l0.length : Int) - 1)) then (if (wrap64 ((l0.length : Int) - 1)) < (l0.length : Int) then (spec_PartitionValid.j0 k l0 (((rd_T83 l0 (wrap64 ((l0.length : Int) - 1))).f1).toList != ([] : List UInt8))) else (none)) else (none)) else (spec_PartitionValid.j0 k l0 true)) else (spec_PartitionValid.j0 k l0 true))) else (none)) = some r := by rw [if_pos rfl] at H; exact H
      clear H
      have H := H1
      clear H1
      by_cases c5 : 0 < (l0.length : Int)
      · rw [if_pos c5] at H
        have c5b0 : decide (0 < (l0.length : Int)) = true := decide_eq_true c5
        have c5b1 : decide (0 < l0.length) = true := decide_eq_true (by omega)
        clear c5
        (first | rw [c5b0] | (simp only [i64_w, i32_w]; rw [c5b0]) | skip)
        replace H := Option.bind_eq_some_iff.mp H
        obtain ⟨t239, A60, H⟩ := H
        replace H : (if t239 = true then (if ((rd_T83 l0 0).f0).toList = ([] : List UInt8) then (if 0 ≤ (wrap64 ((l0.length : Int) - 1)) then (if (wrap64 ((l0.length : Int) - 1)) < (l0.length : Int) then (spec_PartitionValid.j0 k l0 (((rd_T83 l0 (wrap64 ((l0.length : Int) - 1))).f1).toList != ([] : List UInt8))) else (none)) else (none)) else (spec_PartitionValid.j0 k l0 true)) else (spec_PartitionValid.j0 k l0 true)) = some r := H
        have A6 := Aside0.mk A60
        clear A60
        by_cases c7 : t239 = true
        · subst c7
          have H1 : (if ((rd_T83 l0 0).f0).toList = ([] : List UInt8) then (if 0 ≤ (wrap64 ((l0.length : Int) - 1)) then (if (wrap64 ((l0.length : Int) - 1)) < (l0.length : Int) then (spec_PartitionValid.j0 k l0 (((rd_T83 l0 (wrap64 ((l0.length : Int) - 1))).f1).toList != ([] : List UInt8))) else (none)) else (none)) else (spec_PartitionValid.j0 k l0 true)) = some r := by rw [if_pos rfl] at H; exact H
          clear H
          have H := H1
          clear H1
          by_cases c8 : ((rd_T83 l0 0).f0).toList = ([] : List UInt8)
          · rw [if_pos c8] at H
            have c8b0 : (((rd_T83 l0 0).f0).toList == ([] : List UInt8)) = true := beq_iff_eq.mpr c8
            have c8b1 : (((rd_T83 l0 0).f0).toList != ([] : List UInt8)) = false := bne_eq_false_iff_eq.mpr c8
            clear c8
            obtain ⟨ji9, hji9⟩ : ∃ j_ : Int, (wrap64 ((l0.length : Int) - 1)) = j_ := ⟨_, rfl⟩
            replace H : (if 0 ≤ (ji9) then (if (ji9) < (l0.length : Int) then (spec_PartitionValid.j0 k l0 (((rd_T83 l0 (ji9)).f1).toList != ([] : List UInt8))) else (none)) else (none)) = some r := by first | (rw [hji9] at H; exact H) | (simp only [hji9] at H ⊢; exact H)
            (try rw [hji9] at A3)
            (try rw [hji9] at A6)
            have hji9w : (IntKind.i64.wrap ((l0.length : Int) - 1)) = ji9 := (i64_w _).trans hji9
            by_cases c10 : 0 ≤ (ji9)
            · rw [if_pos c10] at H
              have c10b0 : decide (0 ≤ (ji9)) = true := decide_eq_true c10
              clear c10
              by_cases c11 : (ji9) < (l0.length : Int)
              · rw [if_pos c11] at H
                have c11b0 : decide ((ji9) < (l0.length : Int)) = true := decide_eq_true c11
                clear c11
                have H' := Aside0.mk H
                clear H
                go_wp2_with (first | ((with_reducible refine gate_callee (f := 112) rfl ?_); refine gsl (some 8) rfl Try.func112 #[.int .i64 (l0.length : Int), .int .i64 1, .int .i64 6] rfl ?_; (with_reducible refine (spec_l1In.calls (l0.length : Int) 1 6 true _ A3.out).mono ?_); rintro e w' ⟨rfl, ⟨nd, rfl⟩⟩; refine ⟨_, rfl, ?_⟩; have p238 : 0 ≤ (0 : Int) := (by omega); have q238 : 0 < (l0.length : Int) := of_decide_eq_true (by first | (with_reducible assumption) | assumption); obtain ⟨ad238, e238, hx238_0, hx238_1⟩ := at_T83 HR0.out 0 p238 q238; cases e238; have qi238 : (0 < l0.length) = True := eq_true (by omega); (try rw [show ((0 : Int)).toNat = 0 from rfl] at hx238_0); (try rw [show 0 * 2 = 0 from rfl] at hx238_0); (try rw [Addr.add_zero'] at hx238_0); (try rw [show ((0 : Int)).toNat = 0 from rfl] at hx238_1); (try rw [show 0 * 2 = 0 from rfl] at hx238_1); (try rw [Addr.add_zero'] at hx238_1); replace hx238_0 := hcx HB hx238_0; replace hx238_1 := hcx HB hx238_1; replace p238 := eq_true p238; replace q238 := eq_true q238) | (go_at_call 140; (with_reducible refine (spec_IntervalValid.calls k ((rd_T83 l0 0).f0) ((rd_T83 l0 0).f1) true _ A6.out).mono ?_); rintro e w12 ⟨rfl, hb⟩; replace HB := an0 HB hb; (try clear hb); (try clear hb2); (try clear hk); (try clear hi); have p240 : 0 ≤ (0 : Int) := (by omega); have q240 : 0 < (l0.length : Int) := of_decide_eq_true (by first | (with_reducible assumption) | assumption); obtain ⟨ad240, e240, hx240_0, hx240_1⟩ := at_T83 HR0.out 0 p240 q240; obtain rfl : ad238 = ad240 := (by injection e240); have qi240 : (0 < l0.length) = True := eq_true (by omega); (try rw [show ((0 : Int)).toNat = 0 from rfl] at hx240_0); (try rw [show 0 * 2 = 0 from rfl] at hx240_0); (try rw [Addr.add_zero'] at hx240_0); (try rw [show ((0 : Int)).toNat = 0 from rfl] at hx240_1); (try rw [show 0 * 2 = 0 from rfl] at hx240_1); (try rw [Addr.add_zero'] at hx240_1); replace hx240_0 := hcx HB hx240_0; replace hx240_1 := hcx HB hx240_1; replace p240 := eq_true p240; replace q240 := eq_true q240; have p241 : 0 ≤ ((ji9) : Int) := of_decide_eq_true (by first | (with_reducible assumption) | assumption); have q241 : (ji9) < (l0.length : Int) := of_decide_eq_true (by first | (with_reducible assumption) | assumption); obtain ⟨ad241, e241, hx241_0, hx241_1⟩ := at_T83 HR0.out (ji9) p241 q241; obtain rfl : ad238 = ad241 := (by injection e241); replace hx241_0 := hcx HB hx241_0; replace hx241_1 := hcx HB hx241_1; replace p241 := eq_true p241; replace q241 := eq_true q241))
                first | go_meet | ((try subst hji9); go_meet)
                case rel => exact ⟨_, ((((rd_T83 l0 (ji9)).f1).toList != ([] : List UInt8))), (by first | rfl | (simp; done) | (simp only [← hji9] <;> (first | rfl | (simp; done) | (simp [bne_nil_, beq_nil_]; done))) | (simp [*]; done) | (simp [bne_nil_, beq_nil_]; done)), H', ⟨by first | omega | exact Nat.le_refl _⟩, ⟨bp HB.out⟩⟩
              · rw [if_neg c11] at H
                exact absurd H (by simp)
            · rw [if_neg c10] at H
              exact absurd H (by simp)
          · rw [if_neg c8] at H
            have c8b0 : (((rd_T83 l0 0).f0).toList == ([] : List UInt8)) = false := beq_eq_false_iff_ne.mpr c8
            have c8b1 : (((rd_T83 l0 0).f0).toList != ([] : List UInt8)) = true := bne_iff_ne.mpr c8
            have H' := Aside0.mk H
            clear H
            go_wp2_with (first | ((with_reducible refine gate_callee (f := 112) rfl ?_); refine gsl (some 8) rfl Try.func112 #[.int .i64 (l0.length : Int), .int .i64 1, .int .i64 6] rfl ?_; (with_reducible refine (spec_l1In.calls (l0.length : Int) 1 6 true _ A3.out).mono ?_); rintro e w' ⟨rfl, ⟨nd, rfl⟩⟩; refine ⟨_, rfl, ?_⟩; have p238 : 0 ≤ (0 : Int) := (by omega); have q238 : 0 < (l0.length : Int) := of_decide_eq_true (by first | (with_reducible assumption) | assumption); obtain ⟨ad238, e238, hx238_0, hx238_1⟩ := at_T83 HR0.out 0 p238 q238; cases e238; have qi238 : (0 < l0.length) = True := eq_true (by omega); (try rw [show ((0 : Int)).toNat = 0 from rfl] at hx238_0); (try rw [show 0 * 2 = 0 from rfl] at hx238_0); (try rw [Addr.add_zero'] at hx238_0); (try rw [show ((0 : Int)).toNat = 0 from rfl] at hx238_1); (try rw [show 0 * 2 = 0 from rfl] at hx238_1); (try rw [Addr.add_zero'] at hx238_1); replace hx238_0 := hcx HB hx238_0; replace hx238_1 := hcx HB hx238_1; replace p238 := eq_true p238; replace q238 := eq_true q238) | (go_at_call 140; (with_reducible refine (spec_IntervalValid.calls k ((rd_T83 l0 0).f0) ((rd_T83 l0 0).f1) true _ A6.out).mono ?_); rintro e w13 ⟨rfl, hb⟩; replace HB := an0 HB hb; (try clear hb); (try clear hb2); (try clear hk); (try clear hi); have p240 : 0 ≤ (0 : Int) := (by omega); have q240 : 0 < (l0.length : Int) := of_decide_eq_true (by first | (with_reducible assumption) | assumption); obtain ⟨ad240, e240, hx240_0, hx240_1⟩ := at_T83 HR0.out 0 p240 q240; obtain rfl : ad238 = ad240 := (by injection e240); have qi240 : (0 < l0.length) = True := eq_true (by omega); (try rw [show ((0 : Int)).toNat = 0 from rfl] at hx240_0); (try rw [show 0 * 2 = 0 from rfl] at hx240_0); (try rw [Addr.add_zero'] at hx240_0); (try rw [show ((0 : Int)).toNat = 0 from rfl] at hx240_1); (try rw [show 0 * 2 = 0 from rfl] at hx240_1); (try rw [Addr.add_zero'] at hx240_1); replace hx240_0 := hcx HB hx240_0; replace hx240_1 := hcx HB hx240_1; replace p240 := eq_true p240; replace q240 := eq_true q240))
            go_meet
            case rel => exact ⟨_, (true), (by first | rfl | (simp; done) | (simp [*]; done) | (simp [bne_nil_, beq_nil_]; done)), H', ⟨by first | omega | exact Nat.le_refl _⟩, ⟨bp HB.out⟩⟩
        · replace c7 := Bool.eq_false_iff.mpr c7
          subst c7
          have H1 : (spec_PartitionValid.j0 k l0 true) = some r := by rw [if_neg (show ¬ (false = true) by decide)] at H; exact H
          clear H
          have H := H1
          clear H1
          have H' := Aside0.mk H
          clear H
          go_wp2_with (first | ((with_reducible refine gate_callee (f := 112) rfl ?_); refine gsl (some 8) rfl Try.func112 #[.int .i64 (l0.length : Int), .int .i64 1, .int .i64 6] rfl ?_; (with_reducible refine (spec_l1In.calls (l0.length : Int) 1 6 true _ A3.out).mono ?_); rintro e w' ⟨rfl, ⟨nd, rfl⟩⟩; refine ⟨_, rfl, ?_⟩; have p238 : 0 ≤ (0 : Int) := (by omega); have q238 : 0 < (l0.length : Int) := of_decide_eq_true (by first | (with_reducible assumption) | assumption); obtain ⟨ad238, e238, hx238_0, hx238_1⟩ := at_T83 HR0.out 0 p238 q238; cases e238; have qi238 : (0 < l0.length) = True := eq_true (by omega); (try rw [show ((0 : Int)).toNat = 0 from rfl] at hx238_0); (try rw [show 0 * 2 = 0 from rfl] at hx238_0); (try rw [Addr.add_zero'] at hx238_0); (try rw [show ((0 : Int)).toNat = 0 from rfl] at hx238_1); (try rw [show 0 * 2 = 0 from rfl] at hx238_1); (try rw [Addr.add_zero'] at hx238_1); replace hx238_0 := hcx HB hx238_0; replace hx238_1 := hcx HB hx238_1; replace p238 := eq_true p238; replace q238 := eq_true q238) | (go_at_call 140; (with_reducible refine (spec_IntervalValid.calls k ((rd_T83 l0 0).f0) ((rd_T83 l0 0).f1) false _ A6.out).mono ?_); rintro e w14 ⟨rfl, hb⟩; replace HB := an0 HB hb; (try clear hb); (try clear hb2); (try clear hk); (try clear hi)))
          go_meet
          case rel => exact ⟨_, (true), (by first | rfl | (simp; done) | (simp [*]; done) | (simp [bne_nil_, beq_nil_]; done)), H', ⟨by first | omega | exact Nat.le_refl _⟩, ⟨bp HB.out⟩⟩
      · rw [if_neg c5] at H
        exact absurd H (by simp)
    · replace c4 := Bool.eq_false_iff.mpr c4
      subst c4
      have H1 : (spec_PartitionValid.j0 k l0 true) = some r := by rw [if_neg (show ¬ (false = true) by decide)] at H; exact H
      clear H
      have H := H1
      clear H1
      have H' := Aside0.mk H
      clear H
      go_wp2_with (first | ((with_reducible refine gate_callee (f := 112) rfl ?_); refine gsl (some 8) rfl Try.func112 #[.int .i64 (l0.length : Int), .int .i64 1, .int .i64 6] rfl ?_; (with_reducible refine (spec_l1In.calls (l0.length : Int) 1 6 false _ A3.out).mono ?_); rintro e w' ⟨rfl, ⟨nd, rfl⟩⟩; refine ⟨_, rfl, ?_⟩))
      go_meet
      case rel => exact ⟨_, (true), (by first | rfl | (simp; done) | (simp [*]; done) | (simp [bne_nil_, beq_nil_]; done)), H', ⟨by first | omega | exact Nat.le_refl _⟩, ⟨bp HB.out⟩⟩
  case rest =>
    clear HC2
    try clear c1
    try clear p2
    try clear q2
    try clear hx2
    try clear qi2
    try clear c4
    try clear c5
    try clear c5b0
    try clear c5b1
    try clear p6
    try clear c7
    try clear c8
    try clear c8b0
    try clear c8b1
    try clear c10
    try clear c10b0
    try clear c11
    try clear c11b0
    try clear hx238_0
    try clear hx238_1
    try clear hx240_0
    try clear hx240_1
    try clear hx241_0
    try clear hx241_1
    try clear p238
    try clear p240
    try clear p241
    try clear q238
    try clear q240
    try clear q241
    obtain ⟨kq, x33_1, rfl, HA, HJ1, HB⟩ := hcut
    cases kq with
    | zero => exact absurd HA.out (by simp [spec_PartitionValid.j0])
    | succ kj1 =>
      have H := HA.out
      clear HA
      simp only [spec_PartitionValid.j0] at H
      by_cases c15 : x33_1 = true
      · subst c15
        have H1 : (some false) = some r := by rw [if_pos rfl] at H; exact H
        clear H
        have H := H1
        clear H1
        obtain rfl := Option.some.inj H
        go_wp2
        go_ret
        exact ⟨fe, bp HB.out⟩
      · replace c15 := Bool.eq_false_iff.mpr c15
        subst c15
        have H1 : (spec_PartitionValid.l0 kj1 l0 1) = some r := by rw [if_neg (show ¬ (false = true) by decide)] at H; exact H
        clear H
        have H := H1
        clear H1
        have H' := Aside0.mk H
        clear H
        go_wp2
        go_loopg [3] kj1 (fun kq v3 w' => ∃ (x3_2 : Int), v3 = .int .i64 x3_2 ∧ Aside0 (spec_PartitionValid.l0 kq l0 x3_2 = some r) ∧ Aside0 (kq ≤ kj1) ∧ Aside0 (Below w.heap.size w w'))
        case atStart => exact ⟨(1), (by first | rfl | (simp; done) | (simp [*]; done) | (simp [bne_nil_, beq_nil_]; done)), H', ⟨Nat.le_refl _⟩, ⟨bp HB.out⟩⟩
        case round =>
          clear H'
          try clear c1
          try clear p2
          try clear q2
          try clear hx2
          try clear qi2
          try clear c4
          try clear c5
          try clear c5b0
          try clear c5b1
          try clear p6
          try clear c7
          try clear c8
          try clear c8b0
          try clear c8b1
          try clear c10
          try clear c10b0
          try clear c11
          try clear c11b0
          try clear c15
          try clear hx238_0
          try clear hx238_1
          try clear hx240_0
          try clear hx240_1
          try clear hx241_0
          try clear hx241_1
          try clear p2
          try clear p238
          try clear p240
          try clear p241
          try clear p6
          try clear q2
          try clear q238
          try clear q240
          try clear q241
          obtain ⟨x3_2, rfl, HA, HK2, HB⟩ := hrel
          cases gk with
          | zero => exact absurd HA.out (by simp [spec_PartitionValid.l0])
          | succ k2 =>
            have H := HA.out
            clear HA
            simp only [spec_PartitionValid.l0] at H
            by_cases c16 : x3_2 < (l0.length : Int)
            · rw [if_pos c16] at H
              have c16b0 : decide (x3_2 < (l0.length : Int)) = true := decide_eq_true c16
              clear c16
              obtain ⟨ji17, hji17⟩ : ∃ j_ : Int, (wrap64 (x3_2 - 1)) = j_ := ⟨_, rfl⟩
              replace H : (if 0 ≤ (ji17) then (if (ji17) < (l0.length : Int) then (if 0 ≤ x3_2 then ((spec_IntervalJoin.f k2 ((rd_T83 l0 (ji17)).f0) ((rd_T83 l0 (ji17)).f1) ((rd_T83 l0 x3_2).f0) ((rd_T83 l0 x3_2).f1)).bind fun bt244 => (if bt244.2.2 = true then (spec_PartitionValid.l0 k2 l0 (wrap64 (x3_2 + 1))) else (some false))) else (none)) else (none)) else (none)) = some r := by first | (rw [hji17] at H; exact H) | (simp only [hji17] at H ⊢; exact H)
              have hji17w : (IntKind.i64.wrap (x3_2 - 1)) = ji17 := (i64_w _).trans hji17
              by_cases c18 : 0 ≤ (ji17)
              · rw [if_pos c18] at H
                have c18b0 : decide (0 ≤ (ji17)) = true := decide_eq_true c18
                clear c18
                by_cases c19 : (ji17) < (l0.length : Int)
                · rw [if_pos c19] at H
                  have c19b0 : decide ((ji17) < (l0.length : Int)) = true := decide_eq_true c19
                  clear c19
                  by_cases c20 : 0 ≤ x3_2
                  · rw [if_pos c20] at H
                    have c20b0 : decide (0 ≤ x3_2) = true := decide_eq_true c20
                    clear c20
                    replace H := Option.bind_eq_some_iff.mp H
                    obtain ⟨⟨t244, t245, t246⟩, A210, H⟩ := H
                    replace H : (if t246 = true then (spec_PartitionValid.l0 k2 l0 (wrap64 (x3_2 + 1))) else (some false)) = some r := H
                    have A21 := Aside0.mk A210
                    clear A210
                    by_cases c22 : t246 = true
                    · subst c22
                      have H1 : (spec_PartitionValid.l0 k2 l0 (wrap64 (x3_2 + 1))) = some r := by rw [if_pos rfl] at H; exact H
                      clear H
                      have H := H1
                      clear H1
                      have H' := Aside0.mk H
                      clear H
                      try go_wp2
                      have n0_ := Aside0.mk (below_drew1 HB.out)
                      clear HB
                      have HB := n0_
                      clear n0_
                      have p242 : 0 ≤ ((ji17) : Int) := of_decide_eq_true (by first | (with_reducible assumption) | assumption)
                      have q242 : (ji17) < (l0.length : Int) := of_decide_eq_true (by first | (with_reducible assumption) | assumption)
                      obtain ⟨ad242, e242, hx242_0, hx242_1⟩ := at_T83 HR0.out (ji17) p242 q242
                      have hw242_1 := hx242_1
                      have hw242_0 := hx242_0
                      cases e242
                      replace hx242_0 := hcx HB hx242_0
                      replace hx242_1 := hcx HB hx242_1
                      replace p242 := eq_true p242
                      replace q242 := eq_true q242
                      have p243 : 0 ≤ (x3_2 : Int) := of_decide_eq_true (by first | (with_reducible assumption) | assumption)
                      have q243 : x3_2 < (l0.length : Int) := of_decide_eq_true (by first | (with_reducible assumption) | assumption)
                      obtain ⟨ad243, e243, hx243_0, hx243_1⟩ := at_T83 HR0.out x3_2 p243 q243
                      have hw243_1 := hx243_1
                      have hw243_0 := hx243_0
                      obtain rfl : ad242 = ad243 := (by injection e243)
                      replace hx243_0 := hcx HB hx243_0
                      replace hx243_1 := hcx HB hx243_1
                      replace p243 := eq_true p243
                      replace q243 := eq_true q243
                      refine start_ (n := 16) (S := fun w' => w'.cell? (ad242.add (((ji17)).toNat * 2)) = some (.string ((rd_T83 l0 (ji17)).f0)) ∧ w'.cell? ⟨(ad242.add (((ji17)).toNat * 2)).block, (ad242.add (((ji17)).toNat * 2)).off + 1, none⟩ = some (.string ((rd_T83 l0 (ji17)).f1)) ∧ w'.cell? (ad242.add ((x3_2).toNat * 2)) = some (.string ((rd_T83 l0 x3_2).f0)) ∧ w'.cell? ⟨(ad242.add ((x3_2).toNat * 2)).block, (ad242.add ((x3_2).toNat * 2)).off + 1, none⟩ = some (.string ((rd_T83 l0 x3_2).f1))) (ds := []) spec_PartitionValid.m0 (by kernel_rfl) rfl rfl ⟨(hcx HB hw242_0), (hcx HB hw242_1), (hcx HB hw243_0), (hcx HB hw243_1)⟩ (fun hHeld => ?_); refine with_tabW spec_PartitionValid.tab6 spec_PartitionValid.bits6 (fun HT_ HW_ => ?_)
                      generalize wr.drew = w23 at HB hx242_0 hx242_1 hx243_0 hx243_1 hHeld ⊢
                      refine pur (i := 0) (N := some 41) spec_PartitionValid.m1 rfl rfl HT_.out ?_
                      refine pur (i := 1) (N := some 42) spec_PartitionValid.m2 rfl rfl HT_.out ?_
                      refine pur (i := 2) (N := some 43) spec_PartitionValid.m3 rfl rfl HT_.out ?_
                      refine pur (i := 3) (N := some 44) spec_PartitionValid.m4 rfl rfl HT_.out ?_
                      refine pur (i := 5) (N := some 46) spec_PartitionValid.m5 rfl rfl HT_.out ?_
                      refine pur (i := 6) (N := some 47) spec_PartitionValid.m6 rfl rfl HT_.out ?_
                      refine pur (i := 7) (N := some 48) spec_PartitionValid.m7 rfl rfl HT_.out ?_
                      refine take_ (i := 4) (N := some 45) (v := ?_) (a' := ?_) spec_PartitionValid.m8 rfl rfl (take_ofW HT_.out HW_.out (by kernel_rfl)) (fun _ _ _ h => h) (Or.inl ⟨by rfl, ?_⟩) hHeld ?_ ?_
                      rotate_left
                      · rintro w' ⟨s0, s1, s2, s3⟩
                        go_simp
                        with_reducible rfl
                      rotate_left; focus (simp only [Act.put, List.setIfInBounds_toArray, List.set_cons_zero, List.set_cons_succ, i64_w, i32_w]; rfl)
                      refine take_ (i := 8) (N := some 49) (v := ?_) (a' := ?_) spec_PartitionValid.m9 rfl rfl (take_ofW HT_.out HW_.out (by kernel_rfl)) (fun _ _ _ h => h) (Or.inl ⟨by rfl, ?_⟩) hHeld ?_ ?_
                      rotate_left
                      · rintro w' ⟨s0, s1, s2, s3⟩
                        go_simp
                        with_reducible rfl
                      rotate_left; focus (simp only [Act.put, List.setIfInBounds_toArray, List.set_cons_zero, List.set_cons_succ, i64_w, i32_w]; rfl)
                      refine join_ (σ := Nat) 2 spec_PartitionValid.m10 (fun s_ => [(50, .tuple #[.agg #[.string t244, .string t245], .bool true]), (4, .pointer (some ⟨s_, 0, none⟩)), (40, .tuple #[.agg #[.string t244, .string t245], .bool true]), (51, .agg #[.string t244, .string t245]), (52, .bool true)]) (fun s_ w' => (w'.cell? (ad242.add (((ji17)).toNat * 2)) = some (.string ((rd_T83 l0 (ji17)).f0)) ∧ w'.cell? ⟨(ad242.add (((ji17)).toNat * 2)).block, (ad242.add (((ji17)).toNat * 2)).off + 1, none⟩ = some (.string ((rd_T83 l0 (ji17)).f1)) ∧ w'.cell? (ad242.add ((x3_2).toNat * 2)) = some (.string ((rd_T83 l0 x3_2).f0)) ∧ w'.cell? ⟨(ad242.add ((x3_2).toNat * 2)).block, (ad242.add ((x3_2).toNat * 2)).off + 1, none⟩ = some (.string ((rd_T83 l0 x3_2).f1))) ∧ (w'.heap[s_]? = some (.cells #[.string (⟨#[]⟩ : ByteArray), .string (⟨#[]⟩ : ByteArray)] 83 (0, 0))) ∧ (w.heap.size ≤ s_) ∧ (w.heap.size ≤ s_) ∧ (Below w.heap.size w w')) ?_ ?_
                      rotate_left
                      · intro hCont
                        refine two_ (i := 9) (j := 13) (Ni := some 50) (Nj := some 4) spec_PartitionValid.m11 spec_PartitionValid.m12 rfl rfl rfl rfl (two_of HT_.out (by kernel_rfl)) (by decide) (by decide) (fun K hK => ?_) (fun K hK => ?_)
                        · skip
                          refine goes_ Try.func141 (by kernel_rfl) rfl #[.agg #[.string ((rd_T83 l0 (ji17)).f0), .string ((rd_T83 l0 (ji17)).f1)], .agg #[.string ((rd_T83 l0 x3_2).f0), .string ((rd_T83 l0 x3_2).f1)]] (by rfl) rfl rfl (by (try simp only [List.map_toArray, List.map_cons, List.map_nil]); first | done | (simp only [hji17]; rfl) | rfl | (simp only [List.length_drop, List.length_take]; rfl)) ?_
                          with_reducible refine (spec_IntervalJoin.calls k2 ((rd_T83 l0 (ji17)).f0) ((rd_T83 l0 (ji17)).f1) ((rd_T83 l0 x3_2).f0) ((rd_T83 l0 x3_2).f1) t244 t245 true _ A21.out).mono ?_
                          rintro e w24 ⟨rfl, hb⟩
                          refine ⟨_, rfl, ?_⟩
                          have n0_ := an0 HB hb
                          clear HB
                          have HB := n0_
                          clear n0_
                          (try clear hb)
                          (try clear hb2)
                          (try clear hk)
                          (try clear hi)
                          refine hK.out _ _ ⟨(hcx HB hw242_0), (hcx HB hw242_1), (hcx HB hw243_0), (hcx HB hw243_1)⟩ (fun hHeld => ?_)
                          clear hK K
                          refine norm_ (a' := ?_) ?_ ?_
                          rotate_left
                          · show Act.put _ (some 50) _ = _
                            simp only [Act.put, List.setIfInBounds_toArray, List.set_cons_zero, List.set_cons_succ, i64_w, i32_w]
                            rfl
                          refine pur (i := 10) (N := some 40) spec_PartitionValid.m13 rfl rfl HT_.out ?_
                          refine pur (i := 11) (N := some 51) spec_PartitionValid.m14 rfl rfl HT_.out ?_
                          refine pur (i := 12) (N := some 52) spec_PartitionValid.m15 rfl rfl HT_.out ?_
                          refine one_ (i := 13) (N := some 4) spec_PartitionValid.m10 rfl rfl (one_of HT_.out (by kernel_rfl)) (by decide) (fun K hK => ?_)
                          refine box_step ?hg (N := 4) ?hd (cs := #[.string (⟨#[]⟩ : ByteArray), .string (⟨#[]⟩ : ByteArray)]) (t := 83) ?hr ?_; (case hd => rfl); (case hg => rfl); (case hr => first | (go_simp; done) | (go_simp; rfl))
                          intro gb247 hg w25 hbox hb
                          have n0_ := an0 HB hb
                          have n1_ := Aside0.mk (hbox)
                          have n2_ := an2 HB hg
                          have n3_ := an2 HB hg
                          clear HB
                          have HB := n0_
                          have BK247 := n1_
                          have GW247 := n2_
                          have GE247 := n3_
                          clear n0_ n1_ n2_ n3_
                          clear hb hbox hg
                          refine hK.out _ _ ⟨(hcx HB hw242_0), (hcx HB hw242_1), (hcx HB hw243_0), (hcx HB hw243_1)⟩ (fun hHeld => ?_)
                          clear hK K
                          refine norm_ (a' := ?_) ?_ ?_
                          rotate_left
                          · show Act.put _ (some 4) _ = _
                            simp only [Act.put, List.setIfInBounds_toArray, List.set_cons_zero, List.set_cons_succ, i64_w, i32_w]
                            rfl
                          exact norm_ (by simp only [putAll, Act.put, List.setIfInBounds_toArray, List.set_cons_zero, List.set_cons_succ]) (hCont (gb247) _ ⟨hHeld, (kb BK247.out), GW247.out, GE247.out, (bp HB.out)⟩)
                        · skip
                          refine box_step ?hg (N := 4) ?hd (cs := #[.string (⟨#[]⟩ : ByteArray), .string (⟨#[]⟩ : ByteArray)]) (t := 83) ?hr ?_; (case hd => rfl); (case hg => rfl); (case hr => first | (go_simp; done) | (go_simp; rfl))
                          intro gb247 hg w24 hbox hb
                          have n0_ := an0 HB hb
                          have n1_ := Aside0.mk (hbox)
                          have n2_ := an2 HB hg
                          have n3_ := an2 HB hg
                          clear HB
                          have HB := n0_
                          have BK247 := n1_
                          have GW247 := n2_
                          have GE247 := n3_
                          clear n0_ n1_ n2_ n3_
                          clear hb hbox hg
                          refine hK.out _ _ ⟨(hcx HB hw242_0), (hcx HB hw242_1), (hcx HB hw243_0), (hcx HB hw243_1)⟩ (fun hHeld => ?_)
                          clear hK K
                          refine norm_ (a' := ?_) ?_ ?_
                          rotate_left
                          · show Act.put _ (some 4) _ = _
                            simp only [Act.put, List.setIfInBounds_toArray, List.set_cons_zero, List.set_cons_succ, i64_w, i32_w]
                            rfl
                          refine one_ (i := 9) (N := some 50) spec_PartitionValid.m16 rfl rfl (one_of HT_.out (by kernel_rfl)) (by decide) (fun K hK => ?_)
                          refine goes_ Try.func141 (by kernel_rfl) rfl #[.agg #[.string ((rd_T83 l0 (ji17)).f0), .string ((rd_T83 l0 (ji17)).f1)], .agg #[.string ((rd_T83 l0 x3_2).f0), .string ((rd_T83 l0 x3_2).f1)]] (by rfl) rfl rfl (by (try simp only [List.map_toArray, List.map_cons, List.map_nil]); first | done | (simp only [hji17]; rfl) | rfl | (simp only [List.length_drop, List.length_take]; rfl)) ?_
                          with_reducible refine (spec_IntervalJoin.calls k2 ((rd_T83 l0 (ji17)).f0) ((rd_T83 l0 (ji17)).f1) ((rd_T83 l0 x3_2).f0) ((rd_T83 l0 x3_2).f1) t244 t245 true _ A21.out).mono ?_
                          rintro e w25 ⟨rfl, hb⟩
                          refine ⟨_, rfl, ?_⟩
                          have n0_ := an1 BK247 hb
                          have n1_ := an0 HB hb
                          clear BK247
                          clear HB
                          have BK247 := n0_
                          have HB := n1_
                          clear n0_ n1_
                          (try clear hb)
                          (try clear hb2)
                          (try clear hk)
                          (try clear hi)
                          refine hK.out _ _ ⟨(hcx HB hw242_0), (hcx HB hw242_1), (hcx HB hw243_0), (hcx HB hw243_1)⟩ (fun hHeld => ?_)
                          clear hK K
                          refine norm_ (a' := ?_) ?_ ?_
                          rotate_left
                          · show Act.put _ (some 50) _ = _
                            simp only [Act.put, List.setIfInBounds_toArray, List.set_cons_zero, List.set_cons_succ, i64_w, i32_w]
                            rfl
                          refine pur (i := 10) (N := some 40) spec_PartitionValid.m17 rfl rfl HT_.out ?_
                          refine pur (i := 11) (N := some 51) spec_PartitionValid.m18 rfl rfl HT_.out ?_
                          refine pur (i := 12) (N := some 52) spec_PartitionValid.m10 rfl rfl HT_.out ?_
                          exact norm_ (by simp only [putAll, Act.put, List.setIfInBounds_toArray, List.set_cons_zero, List.set_cons_succ]) (hCont (gb247) _ ⟨hHeld, (kb BK247.out), GW247.out, GE247.out, (bp HB.out)⟩)
                      rintro gb247 w26 ⟨hS_, h0_, h1_, h2_, h3_⟩
                      have n0_ : Aside0 (w26.heap[gb247]? = some (.cells #[.string (⟨#[]⟩ : ByteArray), .string (⟨#[]⟩ : ByteArray)] 83 (0, 0))) := ⟨h0_⟩
                      have n1_ : Aside0 (w.heap.size ≤ gb247) := ⟨h1_⟩
                      have n2_ : Aside0 (w.heap.size ≤ gb247) := ⟨h2_⟩
                      have n3_ : Aside0 (Below w.heap.size w w26) := ⟨h3_⟩
                      clear HB
                      clear h0_ h1_ h2_ h3_
                      have BK247 := n0_
                      have GW247 := n1_
                      have GE247 := n2_
                      have HB := n3_
                      clear n0_ n1_ n2_ n3_
                      have hHeld : w26.cell? (ad242.add (((ji17)).toNat * 2)) = some (.string ((rd_T83 l0 (ji17)).f0)) ∧ w26.cell? ⟨(ad242.add (((ji17)).toNat * 2)).block, (ad242.add (((ji17)).toNat * 2)).off + 1, none⟩ = some (.string ((rd_T83 l0 (ji17)).f1)) ∧ w26.cell? (ad242.add ((x3_2).toNat * 2)) = some (.string ((rd_T83 l0 x3_2).f0)) ∧ w26.cell? ⟨(ad242.add ((x3_2).toNat * 2)).block, (ad242.add ((x3_2).toNat * 2)).off + 1, none⟩ = some (.string ((rd_T83 l0 x3_2).f1)) := hS_
                      refine norm_ (a' := ?_) ?_ ?_
                      rotate_left
                      · simp only [putAll, Act.put, List.setIfInBounds_toArray, List.set_cons_zero, List.set_cons_succ]
                        rfl
                      refine one_ (i := 14) (N := none) spec_PartitionValid.m19 rfl rfl (one_of HT_.out (by kernel_rfl)) (by decide) (fun K hK => ?_)
                      have hs27 : w26.cell? ⟨gb247, 0, none⟩ = some (.string (⟨#[]⟩ : ByteArray)) := (blk_cell BK247.out 0).trans rfl
                      have hfs27 := blk_frozen BK247.out 0
                      have hs28 : w26.cell? ⟨gb247, 1, none⟩ = some (.string (⟨#[]⟩ : ByteArray)) := (blk_cell BK247.out 1).trans rfl
                      have hfs28 := blk_frozen BK247.out 1
                      refine skip_ (w1 := ?_) (by rfl) rfl ?_ ?_
                      rotate_left
                      · go_simp
                        rfl
                      refine hK.out _ _ ⟨((cell_far (p := ⟨gb247, _, none⟩) (by first | exact Nat.ne_of_lt (Nat.lt_of_lt_of_le (by have := World.block_lt_of_cell? _ _ hw242_0; first | rwa [add_block] at this | exact this) GW247.out) | (rw [add_block]; exact Nat.ne_of_lt (Nat.lt_of_lt_of_le (by have := World.block_lt_of_cell? _ _ hw242_0; first | rwa [add_block] at this | exact this) GW247.out)) | (show (Addr.add _ _).block ≠ _; rw [add_block]; exact Nat.ne_of_lt (Nat.lt_of_lt_of_le (by have := World.block_lt_of_cell? _ _ hw242_0; first | rwa [add_block] at this | exact this) GW247.out)) | (dsimp only; exact Nat.ne_of_lt (Nat.lt_of_lt_of_le (by have := World.block_lt_of_cell? _ _ hw242_0; first | rwa [add_block] at this | exact this) GW247.out))) _).trans (((cell_far (p := ⟨gb247, _, none⟩) (by first | exact Nat.ne_of_lt (Nat.lt_of_lt_of_le (by have := World.block_lt_of_cell? _ _ hw242_0; first | rwa [add_block] at this | exact this) GW247.out) | (rw [add_block]; exact Nat.ne_of_lt (Nat.lt_of_lt_of_le (by have := World.block_lt_of_cell? _ _ hw242_0; first | rwa [add_block] at this | exact this) GW247.out)) | (show (Addr.add _ _).block ≠ _; rw [add_block]; exact Nat.ne_of_lt (Nat.lt_of_lt_of_le (by have := World.block_lt_of_cell? _ _ hw242_0; first | rwa [add_block] at this | exact this) GW247.out)) | (dsimp only; exact Nat.ne_of_lt (Nat.lt_of_lt_of_le (by have := World.block_lt_of_cell? _ _ hw242_0; first | rwa [add_block] at this | exact this) GW247.out))) _).trans (hHeld.1)))), ((cell_far (p := ⟨gb247, _, none⟩) (by first | exact Nat.ne_of_lt (Nat.lt_of_lt_of_le (by have := World.block_lt_of_cell? _ _ hw242_1; first | rwa [add_block] at this | exact this) GW247.out) | (rw [add_block]; exact Nat.ne_of_lt (Nat.lt_of_lt_of_le (by have := World.block_lt_of_cell? _ _ hw242_1; first | rwa [add_block] at this | exact this) GW247.out)) | (show (Addr.add _ _).block ≠ _; rw [add_block]; exact Nat.ne_of_lt (Nat.lt_of_lt_of_le (by have := World.block_lt_of_cell? _ _ hw242_1; first | rwa [add_block] at this | exact this) GW247.out)) | (dsimp only; exact Nat.ne_of_lt (Nat.lt_of_lt_of_le (by have := World.block_lt_of_cell? _ _ hw242_1; first | rwa [add_block] at this | exact this) GW247.out))) _).trans (((cell_far (p := ⟨gb247, _, none⟩) (by first | exact Nat.ne_of_lt (Nat.lt_of_lt_of_le (by have := World.block_lt_of_cell? _ _ hw242_1; first | rwa [add_block] at this | exact this) GW247.out) | (rw [add_block]; exact Nat.ne_of_lt (Nat.lt_of_lt_of_le (by have := World.block_lt_of_cell? _ _ hw242_1; first | rwa [add_block] at this | exact this) GW247.out)) | (show (Addr.add _ _).block ≠ _; rw [add_block]; exact Nat.ne_of_lt (Nat.lt_of_lt_of_le (by have := World.block_lt_of_cell? _ _ hw242_1; first | rwa [add_block] at this | exact this) GW247.out)) | (dsimp only; exact Nat.ne_of_lt (Nat.lt_of_lt_of_le (by have := World.block_lt_of_cell? _ _ hw242_1; first | rwa [add_block] at this | exact this) GW247.out))) _).trans (hHeld.2.1)))), ((cell_far (p := ⟨gb247, _, none⟩) (by first | exact Nat.ne_of_lt (Nat.lt_of_lt_of_le (by have := World.block_lt_of_cell? _ _ hw243_0; first | rwa [add_block] at this | exact this) GW247.out) | (rw [add_block]; exact Nat.ne_of_lt (Nat.lt_of_lt_of_le (by have := World.block_lt_of_cell? _ _ hw243_0; first | rwa [add_block] at this | exact this) GW247.out)) | (show (Addr.add _ _).block ≠ _; rw [add_block]; exact Nat.ne_of_lt (Nat.lt_of_lt_of_le (by have := World.block_lt_of_cell? _ _ hw243_0; first | rwa [add_block] at this | exact this) GW247.out)) | (dsimp only; exact Nat.ne_of_lt (Nat.lt_of_lt_of_le (by have := World.block_lt_of_cell? _ _ hw243_0; first | rwa [add_block] at this | exact this) GW247.out))) _).trans (((cell_far (p := ⟨gb247, _, none⟩) (by first | exact Nat.ne_of_lt (Nat.lt_of_lt_of_le (by have := World.block_lt_of_cell? _ _ hw243_0; first | rwa [add_block] at this | exact this) GW247.out) | (rw [add_block]; exact Nat.ne_of_lt (Nat.lt_of_lt_of_le (by have := World.block_lt_of_cell? _ _ hw243_0; first | rwa [add_block] at this | exact this) GW247.out)) | (show (Addr.add _ _).block ≠ _; rw [add_block]; exact Nat.ne_of_lt (Nat.lt_of_lt_of_le (by have := World.block_lt_of_cell? _ _ hw243_0; first | rwa [add_block] at this | exact this) GW247.out)) | (dsimp only; exact Nat.ne_of_lt (Nat.lt_of_lt_of_le (by have := World.block_lt_of_cell? _ _ hw243_0; first | rwa [add_block] at this | exact this) GW247.out))) _).trans (hHeld.2.2.1)))), ((cell_far (p := ⟨gb247, _, none⟩) (by first | exact Nat.ne_of_lt (Nat.lt_of_lt_of_le (by have := World.block_lt_of_cell? _ _ hw243_1; first | rwa [add_block] at this | exact this) GW247.out) | (rw [add_block]; exact Nat.ne_of_lt (Nat.lt_of_lt_of_le (by have := World.block_lt_of_cell? _ _ hw243_1; first | rwa [add_block] at this | exact this) GW247.out)) | (show (Addr.add _ _).block ≠ _; rw [add_block]; exact Nat.ne_of_lt (Nat.lt_of_lt_of_le (by have := World.block_lt_of_cell? _ _ hw243_1; first | rwa [add_block] at this | exact this) GW247.out)) | (dsimp only; exact Nat.ne_of_lt (Nat.lt_of_lt_of_le (by have := World.block_lt_of_cell? _ _ hw243_1; first | rwa [add_block] at this | exact this) GW247.out))) _).trans (((cell_far (p := ⟨gb247, _, none⟩) (by first | exact Nat.ne_of_lt (Nat.lt_of_lt_of_le (by have := World.block_lt_of_cell? _ _ hw243_1; first | rwa [add_block] at this | exact this) GW247.out) | (rw [add_block]; exact Nat.ne_of_lt (Nat.lt_of_lt_of_le (by have := World.block_lt_of_cell? _ _ hw243_1; first | rwa [add_block] at this | exact this) GW247.out)) | (show (Addr.add _ _).block ≠ _; rw [add_block]; exact Nat.ne_of_lt (Nat.lt_of_lt_of_le (by have := World.block_lt_of_cell? _ _ hw243_1; first | rwa [add_block] at this | exact this) GW247.out)) | (dsimp only; exact Nat.ne_of_lt (Nat.lt_of_lt_of_le (by have := World.block_lt_of_cell? _ _ hw243_1; first | rwa [add_block] at this | exact this) GW247.out))) _).trans (hHeld.2.2.2))))⟩ (fun hHeld => ?_)
                      clear hK K
                      refine pur (i := 15) (N := some 5) spec_PartitionValid.m20 rfl rfl HT_.out ?_
                      refine done_ (done_of HT_.out (by kernel_rfl)) ?_
                      try go_wp2
                      go_roundg k2
                      case measure => have := HJ1.out; have := HK2.out; omega
                      case rel => exact ⟨(wrap64 (x3_2 + 1)), (by first | rfl | (simp; done) | (simp [*]; done) | (simp [bne_nil_, beq_nil_]; done)), H', ⟨by have := HJ1.out; have := HK2.out; omega⟩, ⟨bp HB.out⟩⟩
                    · replace c22 := Bool.eq_false_iff.mpr c22
                      subst c22
                      have H1 : (some false) = some r := by rw [if_neg (show ¬ (false = true) by decide)] at H; exact H
                      clear H
                      have H := H1
                      clear H1
                      obtain rfl := Option.some.inj H
                      try go_wp2
                      have n0_ := Aside0.mk (below_drew1 HB.out)
                      clear HB
                      have HB := n0_
                      clear n0_
                      have p242 : 0 ≤ ((ji17) : Int) := of_decide_eq_true (by first | (with_reducible assumption) | assumption)
                      have q242 : (ji17) < (l0.length : Int) := of_decide_eq_true (by first | (with_reducible assumption) | assumption)
                      obtain ⟨ad242, e242, hx242_0, hx242_1⟩ := at_T83 HR0.out (ji17) p242 q242
                      have hw242_1 := hx242_1
                      have hw242_0 := hx242_0
                      cases e242
                      replace hx242_0 := hcx HB hx242_0
                      replace hx242_1 := hcx HB hx242_1
                      replace p242 := eq_true p242
                      replace q242 := eq_true q242
                      have p243 : 0 ≤ (x3_2 : Int) := of_decide_eq_true (by first | (with_reducible assumption) | assumption)
                      have q243 : x3_2 < (l0.length : Int) := of_decide_eq_true (by first | (with_reducible assumption) | assumption)
                      obtain ⟨ad243, e243, hx243_0, hx243_1⟩ := at_T83 HR0.out x3_2 p243 q243
                      have hw243_1 := hx243_1
                      have hw243_0 := hx243_0
                      obtain rfl : ad242 = ad243 := (by injection e243)
                      replace hx243_0 := hcx HB hx243_0
                      replace hx243_1 := hcx HB hx243_1
                      replace p243 := eq_true p243
                      replace q243 := eq_true q243
                      refine start_ (n := 16) (S := fun w' => w'.cell? (ad242.add (((ji17)).toNat * 2)) = some (.string ((rd_T83 l0 (ji17)).f0)) ∧ w'.cell? ⟨(ad242.add (((ji17)).toNat * 2)).block, (ad242.add (((ji17)).toNat * 2)).off + 1, none⟩ = some (.string ((rd_T83 l0 (ji17)).f1)) ∧ w'.cell? (ad242.add ((x3_2).toNat * 2)) = some (.string ((rd_T83 l0 x3_2).f0)) ∧ w'.cell? ⟨(ad242.add ((x3_2).toNat * 2)).block, (ad242.add ((x3_2).toNat * 2)).off + 1, none⟩ = some (.string ((rd_T83 l0 x3_2).f1))) (ds := []) spec_PartitionValid.m0 (by kernel_rfl) rfl rfl ⟨(hcx HB hw242_0), (hcx HB hw242_1), (hcx HB hw243_0), (hcx HB hw243_1)⟩ (fun hHeld => ?_); refine with_tabW spec_PartitionValid.tab6 spec_PartitionValid.bits6 (fun HT_ HW_ => ?_)
                      generalize wr.drew = w29 at HB hx242_0 hx242_1 hx243_0 hx243_1 hHeld ⊢
                      refine pur (i := 0) (N := some 41) spec_PartitionValid.m1 rfl rfl HT_.out ?_
                      refine pur (i := 1) (N := some 42) spec_PartitionValid.m2 rfl rfl HT_.out ?_
                      refine pur (i := 2) (N := some 43) spec_PartitionValid.m3 rfl rfl HT_.out ?_
                      refine pur (i := 3) (N := some 44) spec_PartitionValid.m4 rfl rfl HT_.out ?_
                      refine pur (i := 5) (N := some 46) spec_PartitionValid.m5 rfl rfl HT_.out ?_
                      refine pur (i := 6) (N := some 47) spec_PartitionValid.m6 rfl rfl HT_.out ?_
                      refine pur (i := 7) (N := some 48) spec_PartitionValid.m7 rfl rfl HT_.out ?_
                      refine take_ (i := 4) (N := some 45) (v := ?_) (a' := ?_) spec_PartitionValid.m8 rfl rfl (take_ofW HT_.out HW_.out (by kernel_rfl)) (fun _ _ _ h => h) (Or.inl ⟨by rfl, ?_⟩) hHeld ?_ ?_
                      rotate_left
                      · rintro w' ⟨s0, s1, s2, s3⟩
                        go_simp
                        with_reducible rfl
                      rotate_left; focus (simp only [Act.put, List.setIfInBounds_toArray, List.set_cons_zero, List.set_cons_succ, i64_w, i32_w]; rfl)
                      refine take_ (i := 8) (N := some 49) (v := ?_) (a' := ?_) spec_PartitionValid.m9 rfl rfl (take_ofW HT_.out HW_.out (by kernel_rfl)) (fun _ _ _ h => h) (Or.inl ⟨by rfl, ?_⟩) hHeld ?_ ?_
                      rotate_left
                      · rintro w' ⟨s0, s1, s2, s3⟩
                        go_simp
                        with_reducible rfl
                      rotate_left; focus (simp only [Act.put, List.setIfInBounds_toArray, List.set_cons_zero, List.set_cons_succ, i64_w, i32_w]; rfl)
                      refine join_ (σ := Nat) 2 spec_PartitionValid.m10 (fun s_ => [(50, .tuple #[.agg #[.string t244, .string t245], .bool false]), (4, .pointer (some ⟨s_, 0, none⟩)), (40, .tuple #[.agg #[.string t244, .string t245], .bool false]), (51, .agg #[.string t244, .string t245]), (52, .bool false)]) (fun s_ w' => (w'.cell? (ad242.add (((ji17)).toNat * 2)) = some (.string ((rd_T83 l0 (ji17)).f0)) ∧ w'.cell? ⟨(ad242.add (((ji17)).toNat * 2)).block, (ad242.add (((ji17)).toNat * 2)).off + 1, none⟩ = some (.string ((rd_T83 l0 (ji17)).f1)) ∧ w'.cell? (ad242.add ((x3_2).toNat * 2)) = some (.string ((rd_T83 l0 x3_2).f0)) ∧ w'.cell? ⟨(ad242.add ((x3_2).toNat * 2)).block, (ad242.add ((x3_2).toNat * 2)).off + 1, none⟩ = some (.string ((rd_T83 l0 x3_2).f1))) ∧ (w'.heap[s_]? = some (.cells #[.string (⟨#[]⟩ : ByteArray), .string (⟨#[]⟩ : ByteArray)] 83 (0, 0))) ∧ (w.heap.size ≤ s_) ∧ (w.heap.size ≤ s_) ∧ (Below w.heap.size w w')) ?_ ?_
                      rotate_left
                      · intro hCont
                        refine two_ (i := 9) (j := 13) (Ni := some 50) (Nj := some 4) spec_PartitionValid.m11 spec_PartitionValid.m12 rfl rfl rfl rfl (two_of HT_.out (by kernel_rfl)) (by decide) (by decide) (fun K hK => ?_) (fun K hK => ?_)
                        · skip
                          refine goes_ Try.func141 (by kernel_rfl) rfl #[.agg #[.string ((rd_T83 l0 (ji17)).f0), .string ((rd_T83 l0 (ji17)).f1)], .agg #[.string ((rd_T83 l0 x3_2).f0), .string ((rd_T83 l0 x3_2).f1)]] (by rfl) rfl rfl (by (try simp only [List.map_toArray, List.map_cons, List.map_nil]); first | done | (simp only [hji17]; rfl) | rfl | (simp only [List.length_drop, List.length_take]; rfl)) ?_
                          with_reducible refine (spec_IntervalJoin.calls k2 ((rd_T83 l0 (ji17)).f0) ((rd_T83 l0 (ji17)).f1) ((rd_T83 l0 x3_2).f0) ((rd_T83 l0 x3_2).f1) t244 t245 false _ A21.out).mono ?_
                          rintro e w30 ⟨rfl, hb⟩
                          refine ⟨_, rfl, ?_⟩
                          have n0_ := an0 HB hb
                          clear HB
                          have HB := n0_
                          clear n0_
                          (try clear hb)
                          (try clear hb2)
                          (try clear hk)
                          (try clear hi)
                          refine hK.out _ _ ⟨(hcx HB hw242_0), (hcx HB hw242_1), (hcx HB hw243_0), (hcx HB hw243_1)⟩ (fun hHeld => ?_)
                          clear hK K
                          refine norm_ (a' := ?_) ?_ ?_
                          rotate_left
                          · show Act.put _ (some 50) _ = _
                            simp only [Act.put, List.setIfInBounds_toArray, List.set_cons_zero, List.set_cons_succ, i64_w, i32_w]
                            rfl
                          refine pur (i := 10) (N := some 40) spec_PartitionValid.m13 rfl rfl HT_.out ?_
                          refine pur (i := 11) (N := some 51) spec_PartitionValid.m14 rfl rfl HT_.out ?_
                          refine pur (i := 12) (N := some 52) spec_PartitionValid.m15 rfl rfl HT_.out ?_
                          refine one_ (i := 13) (N := some 4) spec_PartitionValid.m10 rfl rfl (one_of HT_.out (by kernel_rfl)) (by decide) (fun K hK => ?_)
                          refine box_step ?hg (N := 4) ?hd (cs := #[.string (⟨#[]⟩ : ByteArray), .string (⟨#[]⟩ : ByteArray)]) (t := 83) ?hr ?_; (case hd => rfl); (case hg => rfl); (case hr => first | (go_simp; done) | (go_simp; rfl))
                          intro gb247 hg w31 hbox hb
                          have n0_ := an0 HB hb
                          have n1_ := Aside0.mk (hbox)
                          have n2_ := an2 HB hg
                          have n3_ := an2 HB hg
                          clear HB
                          have HB := n0_
                          have BK247 := n1_
                          have GW247 := n2_
                          have GE247 := n3_
                          clear n0_ n1_ n2_ n3_
                          clear hb hbox hg
                          refine hK.out _ _ ⟨(hcx HB hw242_0), (hcx HB hw242_1), (hcx HB hw243_0), (hcx HB hw243_1)⟩ (fun hHeld => ?_)
                          clear hK K
                          refine norm_ (a' := ?_) ?_ ?_
                          rotate_left
                          · show Act.put _ (some 4) _ = _
                            simp only [Act.put, List.setIfInBounds_toArray, List.set_cons_zero, List.set_cons_succ, i64_w, i32_w]
                            rfl
                          exact norm_ (by simp only [putAll, Act.put, List.setIfInBounds_toArray, List.set_cons_zero, List.set_cons_succ]) (hCont (gb247) _ ⟨hHeld, (kb BK247.out), GW247.out, GE247.out, (bp HB.out)⟩)
                        · skip
                          refine box_step ?hg (N := 4) ?hd (cs := #[.string (⟨#[]⟩ : ByteArray), .string (⟨#[]⟩ : ByteArray)]) (t := 83) ?hr ?_; (case hd => rfl); (case hg => rfl); (case hr => first | (go_simp; done) | (go_simp; rfl))
                          intro gb247 hg w30 hbox hb
                          have n0_ := an0 HB hb
                          have n1_ := Aside0.mk (hbox)
                          have n2_ := an2 HB hg
                          have n3_ := an2 HB hg
                          clear HB
                          have HB := n0_
                          have BK247 := n1_
                          have GW247 := n2_
                          have GE247 := n3_
                          clear n0_ n1_ n2_ n3_
                          clear hb hbox hg
                          refine hK.out _ _ ⟨(hcx HB hw242_0), (hcx HB hw242_1), (hcx HB hw243_0), (hcx HB hw243_1)⟩ (fun hHeld => ?_)
                          clear hK K
                          refine norm_ (a' := ?_) ?_ ?_
                          rotate_left
                          · show Act.put _ (some 4) _ = _
                            simp only [Act.put, List.setIfInBounds_toArray, List.set_cons_zero, List.set_cons_succ, i64_w, i32_w]
                            rfl
                          refine one_ (i := 9) (N := some 50) spec_PartitionValid.m16 rfl rfl (one_of HT_.out (by kernel_rfl)) (by decide) (fun K hK => ?_)
                          refine goes_ Try.func141 (by kernel_rfl) rfl #[.agg #[.string ((rd_T83 l0 (ji17)).f0), .string ((rd_T83 l0 (ji17)).f1)], .agg #[.string ((rd_T83 l0 x3_2).f0), .string ((rd_T83 l0 x3_2).f1)]] (by rfl) rfl rfl (by (try simp only [List.map_toArray, List.map_cons, List.map_nil]); first | done | (simp only [hji17]; rfl) | rfl | (simp only [List.length_drop, List.length_take]; rfl)) ?_
                          with_reducible refine (spec_IntervalJoin.calls k2 ((rd_T83 l0 (ji17)).f0) ((rd_T83 l0 (ji17)).f1) ((rd_T83 l0 x3_2).f0) ((rd_T83 l0 x3_2).f1) t244 t245 false _ A21.out).mono ?_
                          rintro e w31 ⟨rfl, hb⟩
                          refine ⟨_, rfl, ?_⟩
                          have n0_ := an1 BK247 hb
                          have n1_ := an0 HB hb
                          clear BK247
                          clear HB
                          have BK247 := n0_
                          have HB := n1_
                          clear n0_ n1_
                          (try clear hb)
                          (try clear hb2)
                          (try clear hk)
                          (try clear hi)
                          refine hK.out _ _ ⟨(hcx HB hw242_0), (hcx HB hw242_1), (hcx HB hw243_0), (hcx HB hw243_1)⟩ (fun hHeld => ?_)
                          clear hK K
                          refine norm_ (a' := ?_) ?_ ?_
                          rotate_left
                          · show Act.put _ (some 50) _ = _
                            simp only [Act.put, List.setIfInBounds_toArray, List.set_cons_zero, List.set_cons_succ, i64_w, i32_w]
                            rfl
                          refine pur (i := 10) (N := some 40) spec_PartitionValid.m17 rfl rfl HT_.out ?_
                          refine pur (i := 11) (N := some 51) spec_PartitionValid.m18 rfl rfl HT_.out ?_
                          refine pur (i := 12) (N := some 52) spec_PartitionValid.m10 rfl rfl HT_.out ?_
                          exact norm_ (by simp only [putAll, Act.put, List.setIfInBounds_toArray, List.set_cons_zero, List.set_cons_succ]) (hCont (gb247) _ ⟨hHeld, (kb BK247.out), GW247.out, GE247.out, (bp HB.out)⟩)
                      rintro gb247 w32 ⟨hS_, h0_, h1_, h2_, h3_⟩
                      have n0_ : Aside0 (w32.heap[gb247]? = some (.cells #[.string (⟨#[]⟩ : ByteArray), .string (⟨#[]⟩ : ByteArray)] 83 (0, 0))) := ⟨h0_⟩
                      have n1_ : Aside0 (w.heap.size ≤ gb247) := ⟨h1_⟩
                      have n2_ : Aside0 (w.heap.size ≤ gb247) := ⟨h2_⟩
                      have n3_ : Aside0 (Below w.heap.size w w32) := ⟨h3_⟩
                      clear HB
                      clear h0_ h1_ h2_ h3_
                      have BK247 := n0_
                      have GW247 := n1_
                      have GE247 := n2_
                      have HB := n3_
                      clear n0_ n1_ n2_ n3_
                      have hHeld : w32.cell? (ad242.add (((ji17)).toNat * 2)) = some (.string ((rd_T83 l0 (ji17)).f0)) ∧ w32.cell? ⟨(ad242.add (((ji17)).toNat * 2)).block, (ad242.add (((ji17)).toNat * 2)).off + 1, none⟩ = some (.string ((rd_T83 l0 (ji17)).f1)) ∧ w32.cell? (ad242.add ((x3_2).toNat * 2)) = some (.string ((rd_T83 l0 x3_2).f0)) ∧ w32.cell? ⟨(ad242.add ((x3_2).toNat * 2)).block, (ad242.add ((x3_2).toNat * 2)).off + 1, none⟩ = some (.string ((rd_T83 l0 x3_2).f1)) := hS_
                      refine norm_ (a' := ?_) ?_ ?_
                      rotate_left
                      · simp only [putAll, Act.put, List.setIfInBounds_toArray, List.set_cons_zero, List.set_cons_succ]
                        rfl
                      refine one_ (i := 14) (N := none) spec_PartitionValid.m19 rfl rfl (one_of HT_.out (by kernel_rfl)) (by decide) (fun K hK => ?_)
                      have hs33 : w32.cell? ⟨gb247, 0, none⟩ = some (.string (⟨#[]⟩ : ByteArray)) := (blk_cell BK247.out 0).trans rfl
                      have hfs33 := blk_frozen BK247.out 0
                      have hs34 : w32.cell? ⟨gb247, 1, none⟩ = some (.string (⟨#[]⟩ : ByteArray)) := (blk_cell BK247.out 1).trans rfl
                      have hfs34 := blk_frozen BK247.out 1
                      refine skip_ (w1 := ?_) (by rfl) rfl ?_ ?_
                      rotate_left
                      · go_simp
                        rfl
                      refine hK.out _ _ ⟨((cell_far (p := ⟨gb247, _, none⟩) (by first | exact Nat.ne_of_lt (Nat.lt_of_lt_of_le (by have := World.block_lt_of_cell? _ _ hw242_0; first | rwa [add_block] at this | exact this) GW247.out) | (rw [add_block]; exact Nat.ne_of_lt (Nat.lt_of_lt_of_le (by have := World.block_lt_of_cell? _ _ hw242_0; first | rwa [add_block] at this | exact this) GW247.out)) | (show (Addr.add _ _).block ≠ _; rw [add_block]; exact Nat.ne_of_lt (Nat.lt_of_lt_of_le (by have := World.block_lt_of_cell? _ _ hw242_0; first | rwa [add_block] at this | exact this) GW247.out)) | (dsimp only; exact Nat.ne_of_lt (Nat.lt_of_lt_of_le (by have := World.block_lt_of_cell? _ _ hw242_0; first | rwa [add_block] at this | exact this) GW247.out))) _).trans (((cell_far (p := ⟨gb247, _, none⟩) (by first | exact Nat.ne_of_lt (Nat.lt_of_lt_of_le (by have := World.block_lt_of_cell? _ _ hw242_0; first | rwa [add_block] at this | exact this) GW247.out) | (rw [add_block]; exact Nat.ne_of_lt (Nat.lt_of_lt_of_le (by have := World.block_lt_of_cell? _ _ hw242_0; first | rwa [add_block] at this | exact this) GW247.out)) | (show (Addr.add _ _).block ≠ _; rw [add_block]; exact Nat.ne_of_lt (Nat.lt_of_lt_of_le (by have := World.block_lt_of_cell? _ _ hw242_0; first | rwa [add_block] at this | exact this) GW247.out)) | (dsimp only; exact Nat.ne_of_lt (Nat.lt_of_lt_of_le (by have := World.block_lt_of_cell? _ _ hw242_0; first | rwa [add_block] at this | exact this) GW247.out))) _).trans (hHeld.1)))), ((cell_far (p := ⟨gb247, _, none⟩) (by first | exact Nat.ne_of_lt (Nat.lt_of_lt_of_le (by have := World.block_lt_of_cell? _ _ hw242_1; first | rwa [add_block] at this | exact this) GW247.out) | (rw [add_block]; exact Nat.ne_of_lt (Nat.lt_of_lt_of_le (by have := World.block_lt_of_cell? _ _ hw242_1; first | rwa [add_block] at this | exact this) GW247.out)) | (show (Addr.add _ _).block ≠ _; rw [add_block]; exact Nat.ne_of_lt (Nat.lt_of_lt_of_le (by have := World.block_lt_of_cell? _ _ hw242_1; first | rwa [add_block] at this | exact this) GW247.out)) | (dsimp only; exact Nat.ne_of_lt (Nat.lt_of_lt_of_le (by have := World.block_lt_of_cell? _ _ hw242_1; first | rwa [add_block] at this | exact this) GW247.out))) _).trans (((cell_far (p := ⟨gb247, _, none⟩) (by first | exact Nat.ne_of_lt (Nat.lt_of_lt_of_le (by have := World.block_lt_of_cell? _ _ hw242_1; first | rwa [add_block] at this | exact this) GW247.out) | (rw [add_block]; exact Nat.ne_of_lt (Nat.lt_of_lt_of_le (by have := World.block_lt_of_cell? _ _ hw242_1; first | rwa [add_block] at this | exact this) GW247.out)) | (show (Addr.add _ _).block ≠ _; rw [add_block]; exact Nat.ne_of_lt (Nat.lt_of_lt_of_le (by have := World.block_lt_of_cell? _ _ hw242_1; first | rwa [add_block] at this | exact this) GW247.out)) | (dsimp only; exact Nat.ne_of_lt (Nat.lt_of_lt_of_le (by have := World.block_lt_of_cell? _ _ hw242_1; first | rwa [add_block] at this | exact this) GW247.out))) _).trans (hHeld.2.1)))), ((cell_far (p := ⟨gb247, _, none⟩) (by first | exact Nat.ne_of_lt (Nat.lt_of_lt_of_le (by have := World.block_lt_of_cell? _ _ hw243_0; first | rwa [add_block] at this | exact this) GW247.out) | (rw [add_block]; exact Nat.ne_of_lt (Nat.lt_of_lt_of_le (by have := World.block_lt_of_cell? _ _ hw243_0; first | rwa [add_block] at this | exact this) GW247.out)) | (show (Addr.add _ _).block ≠ _; rw [add_block]; exact Nat.ne_of_lt (Nat.lt_of_lt_of_le (by have := World.block_lt_of_cell? _ _ hw243_0; first | rwa [add_block] at this | exact this) GW247.out)) | (dsimp only; exact Nat.ne_of_lt (Nat.lt_of_lt_of_le (by have := World.block_lt_of_cell? _ _ hw243_0; first | rwa [add_block] at this | exact this) GW247.out))) _).trans (((cell_far (p := ⟨gb247, _, none⟩) (by first | exact Nat.ne_of_lt (Nat.lt_of_lt_of_le (by have := World.block_lt_of_cell? _ _ hw243_0; first | rwa [add_block] at this | exact this) GW247.out) | (rw [add_block]; exact Nat.ne_of_lt (Nat.lt_of_lt_of_le (by have := World.block_lt_of_cell? _ _ hw243_0; first | rwa [add_block] at this | exact this) GW247.out)) | (show (Addr.add _ _).block ≠ _; rw [add_block]; exact Nat.ne_of_lt (Nat.lt_of_lt_of_le (by have := World.block_lt_of_cell? _ _ hw243_0; first | rwa [add_block] at this | exact this) GW247.out)) | (dsimp only; exact Nat.ne_of_lt (Nat.lt_of_lt_of_le (by have := World.block_lt_of_cell? _ _ hw243_0; first | rwa [add_block] at this | exact this) GW247.out))) _).trans (hHeld.2.2.1)))), ((cell_far (p := ⟨gb247, _, none⟩) (by first | exact Nat.ne_of_lt (Nat.lt_of_lt_of_le (by have := World.block_lt_of_cell? _ _ hw243_1; first | rwa [add_block] at this | exact this) GW247.out) | (rw [add_block]; exact Nat.ne_of_lt (Nat.lt_of_lt_of_le (by have := World.block_lt_of_cell? _ _ hw243_1; first | rwa [add_block] at this | exact this) GW247.out)) | (show (Addr.add _ _).block ≠ _; rw [add_block]; exact Nat.ne_of_lt (Nat.lt_of_lt_of_le (by have := World.block_lt_of_cell? _ _ hw243_1; first | rwa [add_block] at this | exact this) GW247.out)) | (dsimp only; exact Nat.ne_of_lt (Nat.lt_of_lt_of_le (by have := World.block_lt_of_cell? _ _ hw243_1; first | rwa [add_block] at this | exact this) GW247.out))) _).trans (((cell_far (p := ⟨gb247, _, none⟩) (by first | exact Nat.ne_of_lt (Nat.lt_of_lt_of_le (by have := World.block_lt_of_cell? _ _ hw243_1; first | rwa [add_block] at this | exact this) GW247.out) | (rw [add_block]; exact Nat.ne_of_lt (Nat.lt_of_lt_of_le (by have := World.block_lt_of_cell? _ _ hw243_1; first | rwa [add_block] at this | exact this) GW247.out)) | (show (Addr.add _ _).block ≠ _; rw [add_block]; exact Nat.ne_of_lt (Nat.lt_of_lt_of_le (by have := World.block_lt_of_cell? _ _ hw243_1; first | rwa [add_block] at this | exact this) GW247.out)) | (dsimp only; exact Nat.ne_of_lt (Nat.lt_of_lt_of_le (by have := World.block_lt_of_cell? _ _ hw243_1; first | rwa [add_block] at this | exact this) GW247.out))) _).trans (hHeld.2.2.2))))⟩ (fun hHeld => ?_)
                      clear hK K
                      refine pur (i := 15) (N := some 5) spec_PartitionValid.m20 rfl rfl HT_.out ?_
                      refine done_ (done_of HT_.out (by kernel_rfl)) ?_
                      try go_wp2
                      go_ret
                      exact ⟨by first | rfl | (simp [errW_none, errW_some] <;> rfl) | (simp only [← hji17]; first | rfl | (simp [errW_none, errW_some] <;> rfl)) | (simp [*, errW_none, errW_some] <;> rfl) | (simp only [IntKind.wrap_u8, show ∀ n_ : Int, wrap64 (n_ % 256) = n_ % 256 from fun n_ => by unfold wrap64; omega]; rfl), bp HB.out⟩
                  · rw [if_neg c20] at H
                    exact absurd H (by simp)
                · rw [if_neg c19] at H
                  exact absurd H (by simp)
              · rw [if_neg c18] at H
                exact absurd H (by simp)
            · rw [if_neg c16] at H
              have c16b0 : decide (x3_2 < (l0.length : Int)) = false := decide_eq_false c16
              clear c16
              obtain rfl := Option.some.inj H
              go_wp2
              go_ret
              exact ⟨fe, bp HB.out⟩

/-! ### spec_IntervalHas: function 161 -/
def spec_IntervalHas.f (k : Nat) (a0_0 : ByteArray) (a0_1 : ByteArray) (a1 : ByteArray) : Option (Bool) := (spec_IntervalValid.f k a0_0 a0_1).bind fun t249 => (if t249 = true then ((spec_KeyValid.f k a1).bind fun t250 => (if t250 = true then (if ((Op.bytesLess a1.toList a0_0.toList) = true) then (some false) else (if a0_1.toList = ([] : List UInt8) then (some true) else (some (Op.bytesLess a1.toList a0_1.toList)))) else (some false))) else (some false))
theorem spec_IntervalHas.mono : ∀ a0 a1 a2 k, LeO (spec_IntervalHas.f k a0 a1 a2) (spec_IntervalHas.f (k + 1) a0 a1 a2) := by
  intro a0 a1 a2 k
  unfold spec_IntervalHas.f
  repeat' first
      | (with_reducible exact spec_IntervalValid.mono _ _ _)
      | (with_reducible exact spec_KeyValid.mono _ _)
      | (with_reducible exact LeO.refl _)
      | (with_reducible exact LeO.none _)
      | (with_reducible refine LeO.ite ?_ ?_)
      | (with_reducible refine LeO.bind ?_ (fun _ => ?_))
      | exact spec_IntervalValid.mono _ _ _
      | exact spec_KeyValid.mono _ _
      | exact LeO.none _
      | refine LeO.ite ?_ ?_
      | refine LeO.bind ?_ (fun _ => ?_)
set_option maxHeartbeats 8000000 in
set_option maxRecDepth 100000 in
theorem spec_IntervalHas.calls (k : Nat) (a0_0 : ByteArray) (a0_1 : ByteArray) (a1 : ByteArray) (r : Bool) (w : World) (h : spec_IntervalHas.f k a0_0 a0_1 a1 = some r) :
    Calls Try.prog 161 #[.agg #[.string a0_0, .string a0_1], .string a1] w fun e w' => e = .returned (.bool r) ∧ Below w.heap.size w w' := by
  have hu83 := Try.underlying83
  have HB := Aside0.mk (Below.refl w.heap.size w)
  have H : ((spec_IntervalValid.f k a0_0 a0_1).bind fun t249 => (if t249 = true then ((spec_KeyValid.f k a1).bind fun t250 => (if t250 = true then (if ((Op.bytesLess a1.toList a0_0.toList) = true) then (some false) else (if a0_1.toList = ([] : List UInt8) then (some true) else (some (Op.bytesLess a1.toList a0_1.toList)))) else (some false))) else (some false))) = some r := h
  clear h
  replace H := Option.bind_eq_some_iff.mp H
  obtain ⟨t249, A30, H⟩ := H
  replace H : (if t249 = true then ((spec_KeyValid.f k a1).bind fun t250 => (if t250 = true then (if ((Op.bytesLess a1.toList a0_0.toList) = true) then (some false) else (if a0_1.toList = ([] : List UInt8) then (some true) else (some (Op.bytesLess a1.toList a0_1.toList)))) else (some false))) else (some false)) = some r := H
  have A3 := Aside0.mk A30
  clear A30
  by_cases c4 : t249 = true
  · subst c4
    have H1 : ((spec_KeyValid.f k a1).bind fun t250 => (if t250 = true then (if ((Op.bytesLess a1.toList a0_0.toList) = true) then (some false) else (if a0_1.toList = ([] : List UInt8) then (some true) else (some (Op.bytesLess a1.toList a0_1.toList)))) else (some false))) = some r := by rw [if_pos rfl] at H; exact H
    clear H
    have H := H1
    clear H1
    replace H := Option.bind_eq_some_iff.mp H
    obtain ⟨t250, A50, H⟩ := H
    replace H : (if t250 = true then (if ((Op.bytesLess a1.toList a0_0.toList) = true) then (some false) else (if a0_1.toList = ([] : List UInt8) then (some true) else (some (Op.bytesLess a1.toList a0_1.toList)))) else (some false)) = some r := H
    have A5 := Aside0.mk A50
    clear A50
    by_cases c6 : t250 = true
    · subst c6
      have H1 : (if ((Op.bytesLess a1.toList a0_0.toList) = true) then (some false) else (if a0_1.toList = ([] : List UInt8) then (some true) else (some (Op.bytesLess a1.toList a0_1.toList)))) = some r := by rw [if_pos rfl] at H; exact H
      clear H
      have H := H1
      clear H1
      by_cases c7 : ((Op.bytesLess a1.toList a0_0.toList) = true)
      · rw [if_pos c7] at H
        have c7b0 : (Op.bytesLess a1.toList a0_0.toList) = true := c7
        clear c7
        obtain rfl := Option.some.inj H
        go_enter Try.func161, Try.ntmps161
        go_wp2_with (first | ((with_reducible refine gate_dst (N := 2) rfl ?_); refine bxe (N := 2) (cs := #[.string a0_0, .string a0_1]) (t := 83) ?_; intro gb248 hg w8 hbox hb; have BK248 := Aside0.mk (hbox); have GW248 := an2 HB hg; have GE248 := an2 HB hg; replace HB := an0 HB hb; clear hb hbox hg; obtain ⟨hcz9_0, hcz9_1, hfz9_0, hfz9_1⟩ := cl2 BK248) | ((with_reducible refine gate_callee (f := 140) rfl ?_); refine gsl (some 6) rfl Try.func140 #[.agg #[.string a0_0, .string a0_1]] rfl ?_; (with_reducible refine (spec_IntervalValid.calls k a0_0 a0_1 true _ A3.out).mono ?_); rintro e w10 ⟨rfl, hb⟩; refine ⟨_, rfl, ?_⟩; replace BK248 := an1 BK248 hb; replace HB := an0 HB hb; (try clear hb); (try clear hb2); (try clear hk); (try clear hi)) | (go_at_call 113; (with_reducible refine (spec_KeyValid.calls k a1 true _ A5.out).mono ?_); rintro e w' ⟨rfl, ⟨nd, rfl⟩⟩; obtain ⟨hcz11_0, hcz11_1, hfz11_0, hfz11_1⟩ := cl2 BK248))
        go_ret
        exact ⟨fe, bp HB.out⟩
      · rw [if_neg c7] at H
        have c7b0 : (Op.bytesLess a1.toList a0_0.toList) = false := by simpa using c7
        clear c7
        by_cases c12 : a0_1.toList = ([] : List UInt8)
        · rw [if_pos c12] at H
          have c12b0 : (a0_1.toList == ([] : List UInt8)) = true := beq_iff_eq.mpr c12
          have c12b1 : (a0_1.toList != ([] : List UInt8)) = false := bne_eq_false_iff_eq.mpr c12
          clear c12
          obtain rfl := Option.some.inj H
          go_enter Try.func161, Try.ntmps161
          go_wp2_with (first | ((with_reducible refine gate_dst (N := 2) rfl ?_); refine bxe (N := 2) (cs := #[.string a0_0, .string a0_1]) (t := 83) ?_; intro gb248 hg w13 hbox hb; have BK248 := Aside0.mk (hbox); have GW248 := an2 HB hg; have GE248 := an2 HB hg; replace HB := an0 HB hb; clear hb hbox hg; obtain ⟨hcz14_0, hcz14_1, hfz14_0, hfz14_1⟩ := cl2 BK248) | ((with_reducible refine gate_callee (f := 140) rfl ?_); refine gsl (some 6) rfl Try.func140 #[.agg #[.string a0_0, .string a0_1]] rfl ?_; (with_reducible refine (spec_IntervalValid.calls k a0_0 a0_1 true _ A3.out).mono ?_); rintro e w15 ⟨rfl, hb⟩; refine ⟨_, rfl, ?_⟩; replace BK248 := an1 BK248 hb; replace HB := an0 HB hb; (try clear hb); (try clear hb2); (try clear hk); (try clear hi)) | (go_at_call 113; (with_reducible refine (spec_KeyValid.calls k a1 true _ A5.out).mono ?_); rintro e w' ⟨rfl, ⟨nd, rfl⟩⟩; obtain ⟨hcz16_0, hcz16_1, hfz16_0, hfz16_1⟩ := cl2 BK248))
          go_ret
          exact ⟨fe, bp HB.out⟩
        · rw [if_neg c12] at H
          have c12b0 : (a0_1.toList == ([] : List UInt8)) = false := beq_eq_false_iff_ne.mpr c12
          have c12b1 : (a0_1.toList != ([] : List UInt8)) = true := bne_iff_ne.mpr c12
          obtain rfl := Option.some.inj H
          go_enter Try.func161, Try.ntmps161
          go_wp2_with (first | ((with_reducible refine gate_dst (N := 2) rfl ?_); refine bxe (N := 2) (cs := #[.string a0_0, .string a0_1]) (t := 83) ?_; intro gb248 hg w17 hbox hb; have BK248 := Aside0.mk (hbox); have GW248 := an2 HB hg; have GE248 := an2 HB hg; replace HB := an0 HB hb; clear hb hbox hg; obtain ⟨hcz18_0, hcz18_1, hfz18_0, hfz18_1⟩ := cl2 BK248) | ((with_reducible refine gate_callee (f := 140) rfl ?_); refine gsl (some 6) rfl Try.func140 #[.agg #[.string a0_0, .string a0_1]] rfl ?_; (with_reducible refine (spec_IntervalValid.calls k a0_0 a0_1 true _ A3.out).mono ?_); rintro e w19 ⟨rfl, hb⟩; refine ⟨_, rfl, ?_⟩; replace BK248 := an1 BK248 hb; replace HB := an0 HB hb; (try clear hb); (try clear hb2); (try clear hk); (try clear hi)) | (go_at_call 113; (with_reducible refine (spec_KeyValid.calls k a1 true _ A5.out).mono ?_); rintro e w' ⟨rfl, ⟨nd, rfl⟩⟩; obtain ⟨hcz20_0, hcz20_1, hfz20_0, hfz20_1⟩ := cl2 BK248))
          go_ret
          exact ⟨fe, bp HB.out⟩
    · replace c6 := Bool.eq_false_iff.mpr c6
      subst c6
      have H1 : (some false) = some r := by rw [if_neg (show ¬ (false = true) by decide)] at H; exact H
      clear H
      have H := H1
      clear H1
      obtain rfl := Option.some.inj H
      go_enter Try.func161, Try.ntmps161
      go_wp2_with (first | ((with_reducible refine gate_dst (N := 2) rfl ?_); refine bxe (N := 2) (cs := #[.string a0_0, .string a0_1]) (t := 83) ?_; intro gb248 hg w21 hbox hb; have BK248 := Aside0.mk (hbox); have GW248 := an2 HB hg; have GE248 := an2 HB hg; replace HB := an0 HB hb; clear hb hbox hg; obtain ⟨hcz22_0, hcz22_1, hfz22_0, hfz22_1⟩ := cl2 BK248) | ((with_reducible refine gate_callee (f := 140) rfl ?_); refine gsl (some 6) rfl Try.func140 #[.agg #[.string a0_0, .string a0_1]] rfl ?_; (with_reducible refine (spec_IntervalValid.calls k a0_0 a0_1 true _ A3.out).mono ?_); rintro e w23 ⟨rfl, hb⟩; refine ⟨_, rfl, ?_⟩; replace BK248 := an1 BK248 hb; replace HB := an0 HB hb; (try clear hb); (try clear hb2); (try clear hk); (try clear hi)) | (go_at_call 113; (with_reducible refine (spec_KeyValid.calls k a1 false _ A5.out).mono ?_); rintro e w' ⟨rfl, ⟨nd, rfl⟩⟩))
      go_ret
      exact ⟨fe, bp HB.out⟩
  · replace c4 := Bool.eq_false_iff.mpr c4
    subst c4
    have H1 : (some false) = some r := by rw [if_neg (show ¬ (false = true) by decide)] at H; exact H
    clear H
    have H := H1
    clear H1
    obtain rfl := Option.some.inj H
    go_enter Try.func161, Try.ntmps161
    go_wp2_with (first | ((with_reducible refine gate_dst (N := 2) rfl ?_); refine bxe (N := 2) (cs := #[.string a0_0, .string a0_1]) (t := 83) ?_; intro gb248 hg w24 hbox hb; have BK248 := Aside0.mk (hbox); have GW248 := an2 HB hg; have GE248 := an2 HB hg; replace HB := an0 HB hb; clear hb hbox hg; obtain ⟨hcz25_0, hcz25_1, hfz25_0, hfz25_1⟩ := cl2 BK248) | ((with_reducible refine gate_callee (f := 140) rfl ?_); refine gsl (some 6) rfl Try.func140 #[.agg #[.string a0_0, .string a0_1]] rfl ?_; (with_reducible refine (spec_IntervalValid.calls k a0_0 a0_1 false _ A3.out).mono ?_); rintro e w26 ⟨rfl, hb⟩; refine ⟨_, rfl, ?_⟩; replace BK248 := an1 BK248 hb; replace HB := an0 HB hb; (try clear hb); (try clear hb2); (try clear hk); (try clear hi)))
    go_ret
    exact ⟨fe, bp HB.out⟩

end Go.Proofs.Ytfeeifefmenlmaa.PFnExactPartDigests
