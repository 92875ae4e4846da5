-- Written by a program of this session, in the manner of the kit's print (wip/pp.py): functions and their contracts.
import Derived.Test.YtfeeifefmenlmaaPFnRealTimex0
import Derived.Test.YtfeeifefmenlmaaPFnRealTimex2
namespace Go.Proofs.Ytfeeifefmenlmaa.PFnRealTime
open Go.RowKit Go.Proofs.YtfeeifefmenlmaaW.PrintWords Go.Proofs.YtfeeifefmenlmaaW.PrintLast Go.Proofs.YtfeeifefmenlmaaW.PrintMore
attribute [local go_sem] binOp_leq_str binOp_gtr_str binOp_geq_str max2_int min2_int max_two min_two max_three min_three max_four min_four   -- for this text's walks alone
set_option linter.unusedVariables false
set_option linter.unusedSimpArgs false

/-! ### spec_PairsValid: function 72 -/
def spec_PairsValid.l0 : Nat → List (S29) → Int → Option (Bool)
  | 0, _, _ => none
  | k + 1, x0, x3 => if x3 < (x0.length : Int) then (if 0 ≤ x3 then ((spec_KeyValid.f k ((rd_T29 x0 x3).f0)).bind fun t189 => (if t189 = true then ((spec_l1In.f ((rd_T29 x0 x3).f1) 0 999).bind fun t191 => (if t191 = true then (if x3 > 0 then (if 0 ≤ (wrap64 (x3 - 1)) then (if (wrap64 (x3 - 1)) < (x0.length : Int) then (if ((Op.bytesLess (((rd_T29 x0 (wrap64 (x3 - 1))).f0).toList) (((rd_T29 x0 x3).f0).toList)) = true) then (spec_PairsValid.l0 k x0 (wrap64 (x3 + 1))) else (some false)) else (none)) else (none)) else (spec_PairsValid.l0 k x0 (wrap64 (x3 + 1)))) else (some false))) else (some false))) else (none)) else (some true)
def spec_PairsValid.f (k : Nat) (l0 : List (S29)) : Option (Bool) := if (l0.length : Int) > 48 then (some false) else (spec_PairsValid.l0 k l0 0)
theorem spec_PairsValid.mono_l : ∀ k, (∀ y0 y1, LeO (spec_PairsValid.l0 k y0 y1) (spec_PairsValid.l0 (k + 1) y0 y1))
  | 0 => fun _ _ r h => by simp [spec_PairsValid.l0] at h
  | k + 1 => by
    have ih0 := spec_PairsValid.mono_l k
    · intro y0 y1
      unfold spec_PairsValid.l0
      repeat' first
      | (with_reducible exact ih0 _ _)
      | (with_reducible exact spec_KeyValid.mono _ _)
      | (with_reducible exact LeO.refl _)
      | (with_reducible exact LeO.none _)
      | (with_reducible refine LeO.ite ?_ ?_)
      | (with_reducible refine LeO.bind ?_ (fun _ => ?_))
      | exact ih0 _ _
      | exact spec_KeyValid.mono _ _
      | exact LeO.none _
      | refine LeO.ite ?_ ?_
      | refine LeO.bind ?_ (fun _ => ?_)
theorem spec_PairsValid.mono : ∀ a0 k, LeO (spec_PairsValid.f k a0) (spec_PairsValid.f (k + 1) a0) := by
  intro a0 k
  have ih0 := spec_PairsValid.mono_l k
  unfold spec_PairsValid.f
  repeat' first
      | (with_reducible exact ih0 _ _)
      | (with_reducible exact spec_KeyValid.mono _ _)
      | (with_reducible exact LeO.refl _)
      | (with_reducible exact LeO.none _)
      | (with_reducible refine LeO.ite ?_ ?_)
      | (with_reducible refine LeO.bind ?_ (fun _ => ?_))
      | exact ih0 _ _
      | exact spec_KeyValid.mono _ _
      | exact LeO.none _
      | refine LeO.ite ?_ ?_
      | refine LeO.bind ?_ (fun _ => ?_)
def spec_PairsValid.T6 : Bool × List (List Nat × List Nat) := (true, [([], []), ([], []), ([0, 1], [0, 1]), ([2], [2]), ([3], [3]), ([4], [4]), ([5], [5]), ([6, 5], [6]), ([7], [7]), ([7], [7]), ([8, 9, 7], [7, 8, 9]), ([10, 7], [7, 10]), ([11, 7], [7, 11]), ([12, 7, 7], [7, 12]), ([13, 7], [7, 13]), ([7, 14], [7, 14]), ([15, 13], [15]), ([16], [16]), ([17, 16], [16, 17]), ([18, 16, 16], [16, 18]), ([19], [19]), ([19], [19]), ([20, 21, 19], [19, 20, 21]), ([22, 19], [19, 22]), ([23, 19], [19, 23]), ([19], [19]), ([19], [19]), ([26, 19], [19, 26]), ([25, 27, 19], [19, 25, 27]), ([28, 19], [19, 28]), ([29, 19], [19, 29]), ([24, 30, 19], [19, 24, 30]), ([19, 31, 16], [16, 19, 31]), ([16, 32], [16, 32])])
def spec_PairsValid.B6 : List Nat := [0, 0, 3, 7, 15, 31, 63, 127, 255, 255, 1023, 2047, 4095, 8191, 16383, 32767, 65535, 131071, 262143, 524287, 1048575, 1048575, 4194303, 8388607, 16777215, 1048575, 1048575, 68157439, 235929599, 504365055, 1041235967, 2147483647, 4294967295, 8589934591]
theorem spec_PairsValid.tab6 : rtab .any (opsOf Try.f72 6) = spec_PairsValid.T6 := by kernel_rfl
theorem spec_PairsValid.bits6 : waitsOk spec_PairsValid.T6.2 spec_PairsValid.B6 = true := by kernel_rfl
def spec_PairsValid.m0 : Array Bool := #[o_, o_, o_, o_, o_, o_, o_, o_, o_, o_, o_, o_, o_, o_, o_, o_, o_, o_, o_, o_, o_, o_, o_, o_, o_, o_, o_, o_, o_, o_, o_, o_, o_, o_]
def spec_PairsValid.m1 : Array Bool := #[i_, o_, o_, o_, o_, o_, o_, o_, o_, o_, o_, o_, o_, o_, o_, o_, o_, o_, o_, o_, o_, o_, o_, o_, o_, o_, o_, o_, o_, o_, o_, o_, o_, o_]
def spec_PairsValid.m2 : Array Bool := #[i_, i_, o_, o_, o_, o_, o_, o_, o_, o_, o_, o_, o_, o_, o_, o_, o_, o_, o_, o_, o_, o_, o_, o_, o_, o_, o_, o_, o_, o_, o_, o_, o_, o_]
def spec_PairsValid.m3 : Array Bool := #[i_, i_, i_, o_, o_, o_, o_, o_, o_, o_, o_, o_, o_, o_, o_, o_, o_, o_, o_, o_, o_, o_, o_, o_, o_, o_, o_, o_, o_, o_, o_, o_, o_, o_]
def spec_PairsValid.m4 : Array Bool := #[i_, i_, i_, i_, o_, o_, o_, o_, o_, o_, o_, o_, o_, o_, o_, o_, o_, o_, o_, o_, o_, o_, o_, o_, o_, o_, o_, o_, o_, o_, o_, o_, o_, o_]
def spec_PairsValid.m5 : Array Bool := #[i_, i_, i_, i_, i_, o_, o_, o_, o_, o_, o_, o_, o_, o_, o_, o_, o_, o_, o_, o_, o_, o_, o_, o_, o_, o_, o_, o_, o_, o_, o_, o_, o_, o_]
def spec_PairsValid.m6 : Array Bool := #[i_, i_, i_, i_, i_, i_, o_, o_, o_, o_, o_, o_, o_, o_, o_, o_, o_, o_, o_, o_, o_, o_, o_, o_, o_, o_, o_, o_, o_, o_, o_, o_, o_, o_]
def spec_PairsValid.m7 : Array Bool := #[i_, i_, i_, i_, i_, i_, i_, o_, o_, o_, o_, o_, o_, o_, o_, o_, o_, o_, o_, o_, o_, o_, o_, o_, o_, o_, o_, o_, o_, o_, o_, o_, o_, o_]
def spec_PairsValid.m8 : Array Bool := #[i_, i_, i_, i_, i_, i_, i_, i_, o_, o_, o_, o_, o_, o_, o_, o_, o_, o_, o_, o_, o_, o_, o_, o_, o_, o_, o_, o_, o_, o_, o_, o_, o_, o_]
def spec_PairsValid.m9 : Array Bool := #[i_, i_, i_, i_, i_, i_, i_, i_, i_, o_, o_, o_, o_, o_, o_, o_, o_, o_, o_, o_, o_, o_, o_, o_, o_, o_, o_, o_, o_, o_, o_, o_, o_, o_]
def spec_PairsValid.m10 : Array Bool := #[i_, i_, i_, i_, i_, i_, i_, i_, i_, i_, o_, o_, o_, o_, o_, o_, o_, o_, o_, o_, o_, o_, o_, o_, o_, o_, o_, o_, o_, o_, o_, o_, o_, o_]
def spec_PairsValid.m11 : Array Bool := #[i_, i_, i_, i_, i_, i_, i_, i_, i_, i_, i_, o_, o_, o_, o_, o_, o_, o_, o_, o_, o_, o_, o_, o_, o_, o_, o_, o_, o_, o_, o_, o_, o_, o_]
def spec_PairsValid.m12 : Array Bool := #[i_, i_, i_, i_, i_, i_, i_, i_, i_, i_, i_, i_, o_, o_, o_, o_, o_, o_, o_, o_, o_, o_, o_, o_, o_, o_, o_, o_, o_, o_, o_, o_, o_, o_]
def spec_PairsValid.m13 : Array Bool := #[i_, i_, i_, i_, i_, i_, i_, i_, i_, i_, i_, i_, i_, o_, o_, o_, o_, o_, o_, o_, o_, o_, o_, o_, o_, o_, o_, o_, o_, o_, o_, o_, o_, o_]
def spec_PairsValid.m14 : Array Bool := #[i_, i_, i_, i_, i_, i_, i_, i_, i_, i_, i_, i_, i_, i_, o_, o_, o_, o_, o_, o_, o_, o_, o_, o_, o_, o_, o_, o_, o_, o_, o_, o_, o_, o_]
def spec_PairsValid.m15 : Array Bool := #[i_, i_, i_, i_, i_, i_, i_, i_, i_, i_, i_, i_, i_, i_, i_, o_, o_, o_, o_, o_, o_, o_, o_, o_, o_, o_, o_, o_, o_, o_, o_, o_, o_, o_]
def spec_PairsValid.m16 : Array Bool := #[i_, i_, i_, i_, i_, i_, i_, i_, i_, i_, i_, i_, i_, i_, i_, i_, o_, o_, o_, o_, o_, o_, o_, o_, o_, o_, o_, o_, o_, o_, o_, o_, o_, o_]
def spec_PairsValid.m17 : Array Bool := #[i_, i_, i_, i_, i_, i_, i_, i_, i_, i_, i_, i_, i_, i_, i_, i_, i_, o_, o_, o_, o_, o_, o_, o_, o_, o_, o_, o_, o_, o_, o_, o_, o_, o_]
def spec_PairsValid.m18 : Array Bool := #[i_, i_, i_, i_, i_, i_, i_, i_, i_, i_, i_, i_, i_, i_, i_, i_, i_, i_, o_, o_, o_, o_, o_, o_, o_, o_, o_, o_, o_, o_, o_, o_, o_, o_]
def spec_PairsValid.m19 : Array Bool := #[i_, i_, i_, i_, i_, i_, i_, i_, i_, i_, i_, i_, i_, i_, i_, i_, i_, i_, i_, o_, o_, o_, o_, o_, o_, o_, o_, o_, o_, o_, o_, o_, o_, o_]
def spec_PairsValid.m20 : Array Bool := #[i_, i_, i_, i_, i_, i_, i_, i_, i_, i_, i_, i_, i_, i_, i_, i_, i_, i_, i_, i_, o_, o_, o_, o_, o_, o_, o_, o_, o_, o_, o_, o_, o_, o_]
def spec_PairsValid.m21 : Array Bool := #[i_, i_, i_, i_, i_, i_, i_, i_, i_, i_, i_, i_, i_, i_, i_, i_, i_, i_, i_, i_, i_, o_, o_, o_, o_, o_, o_, o_, o_, o_, o_, o_, o_, o_]
def spec_PairsValid.m22 : Array Bool := #[i_, i_, i_, i_, i_, i_, i_, i_, i_, i_, i_, i_, i_, i_, i_, i_, i_, i_, i_, i_, i_, i_, o_, o_, o_, o_, o_, o_, o_, o_, o_, o_, o_, o_]
def spec_PairsValid.m23 : Array Bool := #[i_, i_, i_, i_, i_, i_, i_, i_, i_, i_, i_, i_, i_, i_, i_, i_, i_, i_, i_, i_, i_, i_, i_, o_, o_, o_, o_, o_, o_, o_, o_, o_, o_, o_]
def spec_PairsValid.m24 : Array Bool := #[i_, i_, i_, i_, i_, i_, i_, i_, i_, i_, i_, i_, i_, i_, i_, i_, i_, i_, i_, i_, i_, i_, i_, i_, o_, o_, o_, o_, o_, o_, o_, o_, o_, o_]
def spec_PairsValid.m25 : Array Bool := #[i_, i_, i_, i_, i_, i_, i_, i_, i_, i_, i_, i_, i_, i_, i_, i_, i_, i_, i_, i_, i_, i_, i_, i_, o_, i_, o_, o_, o_, o_, o_, o_, o_, o_]
def spec_PairsValid.m26 : Array Bool := #[i_, i_, i_, i_, i_, i_, i_, i_, i_, i_, i_, i_, i_, i_, i_, i_, i_, i_, i_, i_, i_, i_, i_, i_, o_, i_, i_, o_, o_, o_, o_, o_, o_, o_]
def spec_PairsValid.m27 : Array Bool := #[i_, i_, i_, i_, i_, i_, i_, i_, i_, i_, i_, i_, i_, i_, i_, i_, i_, i_, i_, i_, i_, i_, i_, i_, o_, i_, i_, i_, o_, o_, o_, o_, o_, o_]
def spec_PairsValid.m28 : Array Bool := #[i_, i_, i_, i_, i_, i_, i_, i_, i_, i_, i_, i_, i_, i_, i_, i_, i_, i_, i_, i_, i_, i_, i_, i_, o_, i_, i_, i_, i_, o_, o_, o_, o_, o_]
def spec_PairsValid.m29 : Array Bool := #[i_, i_, i_, i_, i_, i_, i_, i_, i_, i_, i_, i_, i_, i_, i_, i_, i_, i_, i_, i_, i_, i_, i_, i_, o_, i_, i_, i_, i_, i_, o_, o_, o_, o_]
def spec_PairsValid.m30 : Array Bool := #[i_, i_, i_, i_, i_, i_, i_, i_, i_, i_, i_, i_, i_, i_, i_, i_, i_, i_, i_, i_, i_, i_, i_, i_, i_, i_, i_, i_, i_, i_, o_, o_, o_, o_]
def spec_PairsValid.m31 : Array Bool := #[i_, i_, i_, i_, i_, i_, i_, i_, i_, i_, i_, i_, i_, i_, i_, i_, i_, i_, i_, i_, i_, i_, i_, i_, i_, i_, i_, i_, i_, i_, i_, o_, o_, o_]
def spec_PairsValid.m32 : Array Bool := #[i_, i_, i_, i_, i_, i_, i_, i_, i_, i_, i_, i_, i_, i_, i_, i_, i_, i_, i_, i_, i_, i_, i_, i_, i_, i_, i_, i_, i_, i_, i_, i_, o_, o_]
def spec_PairsValid.m33 : Array Bool := #[i_, i_, i_, i_, i_, i_, i_, i_, i_, i_, i_, i_, i_, i_, i_, i_, i_, i_, i_, i_, i_, i_, i_, i_, i_, i_, i_, i_, i_, i_, i_, i_, i_, o_]
def spec_PairsValid.m34 : Array Bool := #[i_, i_, i_, i_, i_, i_, i_, i_, i_, i_, i_, i_, i_, i_, i_, i_, i_, i_, i_, i_, i_, i_, i_, i_, i_, i_, i_, i_, i_, i_, i_, i_, i_, i_]
def spec_PairsValid.m35 : Array Bool := #[i_, i_, i_, i_, i_, i_, i_, i_, i_, i_, i_, i_, i_, i_, i_, i_, i_, i_, i_, i_, i_, i_, i_, i_, i_, o_, o_, o_, o_, o_, o_, o_, o_, o_]
def spec_PairsValid.m36 : Array Bool := #[i_, i_, i_, i_, i_, i_, i_, i_, i_, i_, i_, i_, i_, i_, i_, i_, i_, i_, i_, i_, i_, i_, i_, i_, i_, i_, o_, o_, o_, o_, o_, o_, o_, o_]
def spec_PairsValid.m37 : Array Bool := #[i_, i_, i_, i_, i_, i_, i_, i_, i_, i_, i_, i_, i_, i_, i_, i_, i_, i_, i_, i_, i_, i_, i_, i_, i_, i_, i_, o_, o_, o_, o_, o_, o_, o_]
def spec_PairsValid.m38 : Array Bool := #[i_, i_, i_, i_, i_, i_, i_, i_, i_, i_, i_, i_, i_, i_, i_, i_, i_, i_, i_, i_, i_, i_, i_, i_, i_, i_, i_, i_, o_, o_, o_, o_, o_, o_]
def spec_PairsValid.m39 : Array Bool := #[i_, i_, i_, i_, i_, i_, i_, i_, i_, i_, i_, i_, i_, i_, i_, i_, i_, i_, i_, i_, i_, i_, i_, i_, i_, i_, i_, i_, i_, o_, o_, o_, o_, o_]
set_option maxHeartbeats 8000000 in
set_option maxRecDepth 100000 in
theorem spec_PairsValid.calls (k : Nat) (A0 : Option Addr) (c0 : Nat) (l0 : List (S29)) (r : Bool) (w : World) (hr0 : Kd.C k29 w A0 l0.length l0) (hc0 : l0.length ≤ c0) (h : spec_PairsValid.f k l0 = some r) :
    Calls Try.prog 72 #[.slice A0 l0.length c0] w fun e w' => e = .returned (.bool r) ∧ Below w.heap.size w w' := by
  have HR0 := Aside0.mk hr0
  have HC0 := Aside0.mk hc0
  clear hr0 hc0
  have HB := Aside0.mk (Below.refl w.heap.size w)
  have H : (if (l0.length : Int) > 48 then (some false) else (spec_PairsValid.l0 k l0 0)) = some r := h
  clear h
  by_cases c2 : (l0.length : Int) > 48
  · rw [if_pos c2] at H
    have c2b0 : decide (48 < (l0.length : Int)) = true := decide_eq_true c2
    have c2b1 : decide (48 < l0.length) = true := decide_eq_true (by omega)
    clear c2
    obtain rfl := Option.some.inj H
    go_enter Try.func72, Try.ntmps72
    go_wp2
    go_ret
    exact ⟨fe, bp HB.out⟩
  · rw [if_neg c2] at H
    have c2b0 : decide (48 < (l0.length : Int)) = false := decide_eq_false c2
    have c2b1 : decide (48 < l0.length) = false := decide_eq_false (by omega)
    clear c2
    have H' := Aside0.mk H
    clear H
    go_enter Try.func72, Try.ntmps72
    go_wp2
    go_loopg [3] k (fun kq v3 w' => ∃ (x3_1 : Int), v3 = .int .i64 x3_1 ∧ Aside0 (spec_PairsValid.l0 kq l0 x3_1 = some r) ∧ Aside0 (kq ≤ k) ∧ Aside0 (Below w.heap.size w w'))
    case atStart => exact ⟨(0), (by first | rfl | (simp; done) | (simp [*]; done) | (simp [bne_nil_, beq_nil_]; done)), H', ⟨Nat.le_refl _⟩, ⟨bp HB.out⟩⟩
    case round =>
      clear H'
      try clear c2
      try clear c2b0
      try clear c2b1
      try clear p2
      obtain ⟨x3_1, rfl, HA, HK1, HB⟩ := hrel
      cases gk with
      | zero => exact absurd HA.out (by simp [spec_PairsValid.l0])
      | succ k1 =>
        have H := HA.out
        clear HA
        simp only [spec_PairsValid.l0] at H
        by_cases c3 : x3_1 < (l0.length : Int)
        · rw [if_pos c3] at H
          have c3b0 : decide (x3_1 < (l0.length : Int)) = true := decide_eq_true c3
          clear c3
          by_cases c4 : 0 ≤ x3_1
          · rw [if_pos c4] at H
            have c4b0 : decide (0 ≤ x3_1) = true := decide_eq_true c4
            clear c4
            replace H := Option.bind_eq_some_iff.mp H
            obtain ⟨t189, A50, H⟩ := H
            replace H : (if t189 = true then ((spec_l1In.f ((rd_T29 l0 x3_1).f1) 0 999).bind fun t191 => (if t191 = true then (if x3_1 > 0 then (if 0 ≤ (wrap64 (x3_1 - 1)) then (if (wrap64 (x3_1 - 1)) < (l0.length : Int) then (if ((Op.bytesLess (((rd_T29 l0 (wrap64 (x3_1 - 1))).f0).toList) (((rd_T29 l0 x3_1).f0).toList)) = true) then (spec_PairsValid.l0 k1 l0 (wrap64 (x3_1 + 1))) else (some false)) else (none)) else (none)) else (spec_PairsValid.l0 k1 l0 (wrap64 (x3_1 + 1)))) else (some false))) else (some false)) = some r := H
            have A5 := Aside0.mk A50
            clear A50
            by_cases c6 : t189 = true
            · subst c6
              have H1 : ((spec_l1In.f ((rd_T29 l0 x3_1).f1) 0 999).bind fun t191 => (if t191 = true then (if x3_1 > 0 then (if 0 ≤ (wrap64 (x3_1 - 1)) then (if (wrap64 (x3_1 - 1)) < (l0.length : Int) then (if ((Op.bytesLess (((rd_T29 l0 (wrap64 (x3_1 - 1))).f0).toList) (((rd_T29 l0 x3_1).f0).toList)) = true) then (spec_PairsValid.l0 k1 l0 (wrap64 (x3_1 + 1))) else (some false)) else (none)) else (none)) else (spec_PairsValid.l0 k1 l0 (wrap64 (x3_1 + 1)))) else (some false))) = some r := by rw [if_pos rfl] at H; exact H
              clear H
              have H := H1
              clear H1
              replace H := Option.bind_eq_some_iff.mp H
              obtain ⟨t191, A70, H⟩ := H
              replace H : (if t191 = true then (if x3_1 > 0 then (if 0 ≤ (wrap64 (x3_1 - 1)) then (if (wrap64 (x3_1 - 1)) < (l0.length : Int) then (if ((Op.bytesLess (((rd_T29 l0 (wrap64 (x3_1 - 1))).f0).toList) (((rd_T29 l0 x3_1).f0).toList)) = true) then (spec_PairsValid.l0 k1 l0 (wrap64 (x3_1 + 1))) else (some false)) else (none)) else (none)) else (spec_PairsValid.l0 k1 l0 (wrap64 (x3_1 + 1)))) else (some false)) = some r := H
              have A7 := Aside0.mk A70
              clear A70
              by_cases c8 : t191 = true
              · subst c8
                have H1 : (if x3_1 > 0 then (if 0 ≤ (wrap64 (x3_1 - 1)) then (if (wrap64 (x3_1 - 1)) < (l0.length : Int) then (if ((Op.bytesLess (((rd_T29 l0 (wrap64 (x3_1 - 1))).f0).toList) (((rd_T29 l0 x3_1).f0).toList)) = true) then (spec_PairsValid.l0 k1 l0 (wrap64 (x3_1 + 1))) else (some false)) else (none)) else (none)) else (spec_PairsValid.l0 k1 l0 (wrap64 (x3_1 + 1)))) = some r := by rw [if_pos rfl] at H; exact H
                clear H
                have H := H1
                clear H1
                by_cases c9 : x3_1 > 0
                · rw [if_pos c9] at H
                  have c9b0 : decide (0 < x3_1) = true := decide_eq_true c9
                  clear c9
                  obtain ⟨ji10, hji10⟩ : ∃ j_ : Int, (wrap64 (x3_1 - 1)) = j_ := ⟨_, rfl⟩
                  replace H : (if 0 ≤ (ji10) then (if (ji10) < (l0.length : Int) then (if ((Op.bytesLess (((rd_T29 l0 (ji10)).f0).toList) (((rd_T29 l0 x3_1).f0).toList)) = true) then (spec_PairsValid.l0 k1 l0 (wrap64 (x3_1 + 1))) else (some false)) else (none)) else (none)) = some r := by first | (rw [hji10] at H; exact H) | (simp only [hji10] at H ⊢; exact H)
                  (try rw [hji10] at A5)
                  (try rw [hji10] at A7)
                  have hji10w : (IntKind.i64.wrap (x3_1 - 1)) = ji10 := (i64_w _).trans hji10
                  by_cases c11 : 0 ≤ (ji10)
                  · rw [if_pos c11] at H
                    have c11b0 : decide (0 ≤ (ji10)) = true := decide_eq_true c11
                    clear c11
                    by_cases c12 : (ji10) < (l0.length : Int)
                    · rw [if_pos c12] at H
                      have c12b0 : decide ((ji10) < (l0.length : Int)) = true := decide_eq_true c12
                      clear c12
                      by_cases c13 : ((Op.bytesLess (((rd_T29 l0 (ji10)).f0).toList) (((rd_T29 l0 x3_1).f0).toList)) = true)
                      · rw [if_pos c13] at H
                        have c13b0 : (Op.bytesLess (((rd_T29 l0 (ji10)).f0).toList) (((rd_T29 l0 x3_1).f0).toList)) = true := c13
                        clear c13
                        have H' := Aside0.mk H
                        clear H
                        try go_wp2
                        have n0_ := Aside0.mk (below_drew1 HB.out)
                        clear HB
                        have HB := n0_
                        clear n0_
                        have p188 : 0 ≤ (x3_1 : Int) := of_decide_eq_true (by first | (with_reducible assumption) | assumption)
                        have q188 : x3_1 < (l0.length : Int) := of_decide_eq_true (by first | (with_reducible assumption) | assumption)
                        obtain ⟨ad188, e188, hx188_0, hx188_1⟩ := at_T29 HR0.out x3_1 p188 q188
                        have hw188_1 := hx188_1
                        have hw188_0 := hx188_0
                        cases e188
                        replace hx188_0 := hcx HB hx188_0
                        replace hx188_1 := hcx HB hx188_1
                        replace p188 := eq_true p188
                        replace q188 := eq_true q188
                        have p190 : 0 ≤ (x3_1 : Int) := of_decide_eq_true (by first | (with_reducible assumption) | assumption)
                        have q190 : x3_1 < (l0.length : Int) := of_decide_eq_true (by first | (with_reducible assumption) | assumption)
                        obtain ⟨ad190, e190, hx190_0, hx190_1⟩ := at_T29 HR0.out x3_1 p190 q190
                        have hw190_1 := hx190_1
                        have hw190_0 := hx190_0
                        obtain rfl : ad188 = ad190 := (by injection e190)
                        replace hx190_0 := hcx HB hx190_0
                        replace hx190_1 := hcx HB hx190_1
                        replace p190 := eq_true p190
                        replace q190 := eq_true q190
                        have p192 : 0 ≤ (x3_1 : Int) := of_decide_eq_true (by first | (with_reducible assumption) | assumption)
                        have q192 : x3_1 < (l0.length : Int) := of_decide_eq_true (by first | (with_reducible assumption) | assumption)
                        obtain ⟨ad192, e192, hx192_0, hx192_1⟩ := at_T29 HR0.out x3_1 p192 q192
                        have hw192_1 := hx192_1
                        have hw192_0 := hx192_0
                        obtain rfl : ad188 = ad192 := (by injection e192)
                        replace hx192_0 := hcx HB hx192_0
                        replace hx192_1 := hcx HB hx192_1
                        replace p192 := eq_true p192
                        replace q192 := eq_true q192
                        have p193 : 0 ≤ ((ji10) : Int) := of_decide_eq_true (by first | (with_reducible assumption) | assumption)
                        have q193 : (ji10) < (l0.length : Int) := of_decide_eq_true (by first | (with_reducible assumption) | assumption)
                        obtain ⟨ad193, e193, hx193_0, hx193_1⟩ := at_T29 HR0.out (ji10) p193 q193
                        have hw193_1 := hx193_1
                        have hw193_0 := hx193_0
                        obtain rfl : ad188 = ad193 := (by injection e193)
                        replace hx193_0 := hcx HB hx193_0
                        replace hx193_1 := hcx HB hx193_1
                        replace p193 := eq_true p193
                        replace q193 := eq_true q193
                        refine start_ (n := 34) (S := fun w' => w'.cell? (ad188.add ((x3_1).toNat * 2)) = some (.string ((rd_T29 l0 x3_1).f0)) ∧ w'.cell? ⟨(ad188.add ((x3_1).toNat * 2)).block, (ad188.add ((x3_1).toNat * 2)).off + 1, none⟩ = some (.int .i64 ((rd_T29 l0 x3_1).f1)) ∧ w'.cell? (ad188.add ((x3_1).toNat * 2)) = some (.string ((rd_T29 l0 x3_1).f0)) ∧ w'.cell? ⟨(ad188.add ((x3_1).toNat * 2)).block, (ad188.add ((x3_1).toNat * 2)).off + 1, none⟩ = some (.int .i64 ((rd_T29 l0 x3_1).f1)) ∧ w'.cell? (ad188.add ((x3_1).toNat * 2)) = some (.string ((rd_T29 l0 x3_1).f0)) ∧ w'.cell? ⟨(ad188.add ((x3_1).toNat * 2)).block, (ad188.add ((x3_1).toNat * 2)).off + 1, none⟩ = some (.int .i64 ((rd_T29 l0 x3_1).f1)) ∧ w'.cell? (ad188.add (((ji10)).toNat * 2)) = some (.string ((rd_T29 l0 (ji10)).f0)) ∧ w'.cell? ⟨(ad188.add (((ji10)).toNat * 2)).block, (ad188.add (((ji10)).toNat * 2)).off + 1, none⟩ = some (.int .i64 ((rd_T29 l0 (ji10)).f1))) (ds := []) spec_PairsValid.m0 (by kernel_rfl) rfl rfl ⟨(hcx HB hw188_0), (hcx HB hw188_1), (hcx HB hw190_0), (hcx HB hw190_1), (hcx HB hw192_0), (hcx HB hw192_1), (hcx HB hw193_0), (hcx HB hw193_1)⟩ (fun hHeld => ?_); refine with_tabW spec_PairsValid.tab6 spec_PairsValid.bits6 (fun HT_ HW_ => ?_)
                        generalize wr.drew = w14 at HB hx188_0 hx188_1 hx190_0 hx190_1 hx192_0 hx192_1 hx193_0 hx193_1 hHeld ⊢
                        refine pur (i := 0) (N := some 13) spec_PairsValid.m1 rfl rfl HT_.out ?_
                        refine pur (i := 1) (N := some 14) spec_PairsValid.m2 rfl rfl HT_.out ?_
                        refine pur (i := 2) (N := some 15) spec_PairsValid.m3 rfl rfl HT_.out ?_
                        refine pur (i := 3) (N := some 16) spec_PairsValid.m4 rfl rfl HT_.out ?_
                        refine take_ (i := 4) (N := some 17) (v := ?_) (a' := ?_) spec_PairsValid.m5 rfl rfl (take_ofW HT_.out HW_.out (by kernel_rfl)) (fun _ _ _ h => h) (Or.inl ⟨by rfl, ?_⟩) hHeld ?_ ?_
                        rotate_left
                        · rintro w' ⟨s0, s1, s2, s3, s4, s5, s6, s7⟩
                          go_simp
                          with_reducible rfl
                        rotate_left; focus (simp only [Act.put, List.setIfInBounds_toArray, List.set_cons_zero, List.set_cons_succ, i64_w, i32_w]; rfl)
                        refine one_ (i := 5) (N := some 18) spec_PairsValid.m6 rfl rfl (one_of HT_.out (by kernel_rfl)) (by decide) (fun K hK => ?_)
                        refine goes_ Try.func113 (by kernel_rfl) rfl #[.string ((rd_T29 l0 x3_1).f0)] (by rfl) rfl rfl (by (try simp only [List.map_toArray, List.map_cons, List.map_nil]); first | done | rfl | (simp only [List.length_drop, List.length_take]; rfl)) ?_
                        with_reducible refine (spec_KeyValid.calls k1 ((rd_T29 l0 x3_1).f0) true _ A5.out).mono ?_
                        rintro e w' ⟨rfl, ⟨nd, rfl⟩⟩
                        refine ⟨_, rfl, ?_⟩
                        refine hK.out _ _ ⟨(hcx HB hw188_0), (hcx HB hw188_1), (hcx HB hw190_0), (hcx HB hw190_1), (hcx HB hw192_0), (hcx HB hw192_1), (hcx HB hw193_0), (hcx HB hw193_1)⟩ (fun hHeld => ?_)
                        clear hK K
                        refine norm_ (a' := ?_) ?_ ?_
                        rotate_left
                        · show Act.put _ (some 18) _ = _
                          simp only [Act.put, List.setIfInBounds_toArray, List.set_cons_zero, List.set_cons_succ, i64_w, i32_w]
                          rfl
                        refine pur (i := 6) (N := some 19) spec_PairsValid.m7 rfl rfl HT_.out ?_
                        refine pur (i := 7) (N := some 20) spec_PairsValid.m8 rfl rfl HT_.out ?_
                        refine pur (i := 8) (N := some 21) spec_PairsValid.m9 rfl rfl HT_.out ?_
                        refine pur (i := 9) (N := some 22) spec_PairsValid.m10 rfl rfl HT_.out ?_
                        refine pur (i := 10) (N := some 23) spec_PairsValid.m11 rfl rfl HT_.out ?_
                        refine pur (i := 11) (N := some 24) spec_PairsValid.m12 rfl rfl HT_.out ?_
                        refine take_ (i := 12) (N := some 25) (v := ?_) (a' := ?_) spec_PairsValid.m13 rfl rfl (take_ofW HT_.out HW_.out (by kernel_rfl)) (fun _ _ _ h => h) (Or.inl ⟨by rfl, ?_⟩) hHeld ?_ ?_
                        rotate_left
                        · rintro w' ⟨s0, s1, s2, s3, s4, s5, s6, s7⟩
                          go_simp
                          with_reducible rfl
                        rotate_left; focus (simp only [Act.put, List.setIfInBounds_toArray, List.set_cons_zero, List.set_cons_succ, i64_w, i32_w]; rfl)
                        refine one_ (i := 13) (N := some 26) spec_PairsValid.m14 rfl rfl (one_of HT_.out (by kernel_rfl)) (by decide) (fun K hK => ?_)
                        refine goes_ Try.func112 (by kernel_rfl) rfl #[.int .i64 ((rd_T29 l0 x3_1).f1), .int .i64 0, .int .i64 999] (by rfl) rfl rfl (by (try simp only [List.map_toArray, List.map_cons, List.map_nil]); first | done | rfl | (simp only [List.length_drop, List.length_take]; rfl)) ?_
                        with_reducible refine (spec_l1In.calls ((rd_T29 l0 x3_1).f1) 0 999 true _ A7.out).mono ?_
                        rintro e w' ⟨rfl, ⟨nd, rfl⟩⟩
                        refine ⟨_, rfl, ?_⟩
                        refine hK.out _ _ ⟨(hcx HB hw188_0), (hcx HB hw188_1), (hcx HB hw190_0), (hcx HB hw190_1), (hcx HB hw192_0), (hcx HB hw192_1), (hcx HB hw193_0), (hcx HB hw193_1)⟩ (fun hHeld => ?_)
                        clear hK K
                        refine norm_ (a' := ?_) ?_ ?_
                        rotate_left
                        · show Act.put _ (some 26) _ = _
                          simp only [Act.put, List.setIfInBounds_toArray, List.set_cons_zero, List.set_cons_succ, i64_w, i32_w]
                          rfl
                        refine pur (i := 14) (N := some 27) spec_PairsValid.m15 rfl rfl HT_.out ?_
                        refine pur (i := 15) (N := some 28) spec_PairsValid.m16 rfl rfl HT_.out ?_
                        refine pur (i := 16) (N := some 29) spec_PairsValid.m17 rfl rfl HT_.out ?_
                        refine pur (i := 17) (N := some 30) spec_PairsValid.m18 rfl rfl HT_.out ?_
                        refine pur (i := 18) (N := some 31) spec_PairsValid.m19 rfl rfl HT_.out ?_
                        refine pur (i := 19) (N := some 32) spec_PairsValid.m20 rfl rfl HT_.out ?_
                        refine pur (i := 20) (N := some 33) spec_PairsValid.m21 rfl rfl HT_.out ?_
                        refine pur (i := 21) (N := some 34) spec_PairsValid.m22 rfl rfl HT_.out ?_
                        refine pur (i := 22) (N := some 35) spec_PairsValid.m23 rfl rfl HT_.out ?_
                        refine pur (i := 23) (N := some 36) spec_PairsValid.m24 rfl rfl HT_.out ?_
                        refine pur (i := 25) (N := some 38) spec_PairsValid.m25 rfl rfl HT_.out ?_
                        refine pur (i := 26) (N := some 39) spec_PairsValid.m26 rfl rfl HT_.out ?_
                        refine pur (i := 27) (N := some 40) spec_PairsValid.m27 rfl rfl HT_.out ?_
                        refine pur (i := 28) (N := some 41) spec_PairsValid.m28 rfl rfl HT_.out ?_
                        refine pur (i := 29) (N := some 42) spec_PairsValid.m29 rfl rfl HT_.out ?_
                        refine take_ (i := 24) (N := some 37) (v := ?_) (a' := ?_) spec_PairsValid.m30 rfl rfl (take_ofW HT_.out HW_.out (by kernel_rfl)) (fun _ _ _ h => h) (Or.inl ⟨by rfl, ?_⟩) hHeld ?_ ?_
                        rotate_left
                        · rintro w' ⟨s0, s1, s2, s3, s4, s5, s6, s7⟩
                          go_simp
                          with_reducible rfl
                        rotate_left; focus (simp only [Act.put, List.setIfInBounds_toArray, List.set_cons_zero, List.set_cons_succ, i64_w, i32_w]; rfl)
                        refine take_ (i := 30) (N := some 43) (v := ?_) (a' := ?_) spec_PairsValid.m31 rfl rfl (take_ofW HT_.out HW_.out (by kernel_rfl)) (fun _ _ _ h => h) (Or.inl ⟨by rfl, ?_⟩) hHeld ?_ ?_
                        rotate_left
                        · rintro w' ⟨s0, s1, s2, s3, s4, s5, s6, s7⟩
                          go_simp
                          with_reducible rfl
                        rotate_left; focus (simp only [Act.put, List.setIfInBounds_toArray, List.set_cons_zero, List.set_cons_succ, i64_w, i32_w]; rfl)
                        refine pur (i := 31) (N := some 44) spec_PairsValid.m32 rfl rfl HT_.out ?_
                        refine pur (i := 32) (N := some 45) spec_PairsValid.m33 rfl rfl HT_.out ?_
                        refine pur (i := 33) (N := some 46) spec_PairsValid.m34 rfl rfl HT_.out ?_
                        refine done_ (done_of HT_.out (by kernel_rfl)) ?_
                        try go_wp2
                        go_roundg k1
                        case measure => have := HK1.out; omega
                        case rel => exact ⟨(wrap64 (x3_1 + 1)), (by first | rfl | (simp; done) | (simp [*]; done) | (simp [bne_nil_, beq_nil_]; done)), H', ⟨by have := HK1.out; omega⟩, ⟨bp HB.out⟩⟩
                      · rw [if_neg c13] at H
                        have c13b0 : (Op.bytesLess (((rd_T29 l0 (ji10)).f0).toList) (((rd_T29 l0 x3_1).f0).toList)) = false := by simpa using c13
                        clear c13
                        obtain rfl := Option.some.inj H
                        try go_wp2
                        have n0_ := Aside0.mk (below_drew1 HB.out)
                        clear HB
                        have HB := n0_
                        clear n0_
                        have p188 : 0 ≤ (x3_1 : Int) := of_decide_eq_true (by first | (with_reducible assumption) | assumption)
                        have q188 : x3_1 < (l0.length : Int) := of_decide_eq_true (by first | (with_reducible assumption) | assumption)
                        obtain ⟨ad188, e188, hx188_0, hx188_1⟩ := at_T29 HR0.out x3_1 p188 q188
                        have hw188_1 := hx188_1
                        have hw188_0 := hx188_0
                        cases e188
                        replace hx188_0 := hcx HB hx188_0
                        replace hx188_1 := hcx HB hx188_1
                        replace p188 := eq_true p188
                        replace q188 := eq_true q188
                        have p190 : 0 ≤ (x3_1 : Int) := of_decide_eq_true (by first | (with_reducible assumption) | assumption)
                        have q190 : x3_1 < (l0.length : Int) := of_decide_eq_true (by first | (with_reducible assumption) | assumption)
                        obtain ⟨ad190, e190, hx190_0, hx190_1⟩ := at_T29 HR0.out x3_1 p190 q190
                        have hw190_1 := hx190_1
                        have hw190_0 := hx190_0
                        obtain rfl : ad188 = ad190 := (by injection e190)
                        replace hx190_0 := hcx HB hx190_0
                        replace hx190_1 := hcx HB hx190_1
                        replace p190 := eq_true p190
                        replace q190 := eq_true q190
                        have p192 : 0 ≤ (x3_1 : Int) := of_decide_eq_true (by first | (with_reducible assumption) | assumption)
                        have q192 : x3_1 < (l0.length : Int) := of_decide_eq_true (by first | (with_reducible assumption) | assumption)
                        obtain ⟨ad192, e192, hx192_0, hx192_1⟩ := at_T29 HR0.out x3_1 p192 q192
                        have hw192_1 := hx192_1
                        have hw192_0 := hx192_0
                        obtain rfl : ad188 = ad192 := (by injection e192)
                        replace hx192_0 := hcx HB hx192_0
                        replace hx192_1 := hcx HB hx192_1
                        replace p192 := eq_true p192
                        replace q192 := eq_true q192
                        have p193 : 0 ≤ ((ji10) : Int) := of_decide_eq_true (by first | (with_reducible assumption) | assumption)
                        have q193 : (ji10) < (l0.length : Int) := of_decide_eq_true (by first | (with_reducible assumption) | assumption)
                        obtain ⟨ad193, e193, hx193_0, hx193_1⟩ := at_T29 HR0.out (ji10) p193 q193
                        have hw193_1 := hx193_1
                        have hw193_0 := hx193_0
                        obtain rfl : ad188 = ad193 := (by injection e193)
                        replace hx193_0 := hcx HB hx193_0
                        replace hx193_1 := hcx HB hx193_1
                        replace p193 := eq_true p193
                        replace q193 := eq_true q193
                        refine start_ (n := 34) (S := fun w' => w'.cell? (ad188.add ((x3_1).toNat * 2)) = some (.string ((rd_T29 l0 x3_1).f0)) ∧ w'.cell? ⟨(ad188.add ((x3_1).toNat * 2)).block, (ad188.add ((x3_1).toNat * 2)).off + 1, none⟩ = some (.int .i64 ((rd_T29 l0 x3_1).f1)) ∧ w'.cell? (ad188.add ((x3_1).toNat * 2)) = some (.string ((rd_T29 l0 x3_1).f0)) ∧ w'.cell? ⟨(ad188.add ((x3_1).toNat * 2)).block, (ad188.add ((x3_1).toNat * 2)).off + 1, none⟩ = some (.int .i64 ((rd_T29 l0 x3_1).f1)) ∧ w'.cell? (ad188.add ((x3_1).toNat * 2)) = some (.string ((rd_T29 l0 x3_1).f0)) ∧ w'.cell? ⟨(ad188.add ((x3_1).toNat * 2)).block, (ad188.add ((x3_1).toNat * 2)).off + 1, none⟩ = some (.int .i64 ((rd_T29 l0 x3_1).f1)) ∧ w'.cell? (ad188.add (((ji10)).toNat * 2)) = some (.string ((rd_T29 l0 (ji10)).f0)) ∧ w'.cell? ⟨(ad188.add (((ji10)).toNat * 2)).block, (ad188.add (((ji10)).toNat * 2)).off + 1, none⟩ = some (.int .i64 ((rd_T29 l0 (ji10)).f1))) (ds := []) spec_PairsValid.m0 (by kernel_rfl) rfl rfl ⟨(hcx HB hw188_0), (hcx HB hw188_1), (hcx HB hw190_0), (hcx HB hw190_1), (hcx HB hw192_0), (hcx HB hw192_1), (hcx HB hw193_0), (hcx HB hw193_1)⟩ (fun hHeld => ?_); refine with_tabW spec_PairsValid.tab6 spec_PairsValid.bits6 (fun HT_ HW_ => ?_)
                        generalize wr.drew = w15 at HB hx188_0 hx188_1 hx190_0 hx190_1 hx192_0 hx192_1 hx193_0 hx193_1 hHeld ⊢
                        refine pur (i := 0) (N := some 13) spec_PairsValid.m1 rfl rfl HT_.out ?_
                        refine pur (i := 1) (N := some 14) spec_PairsValid.m2 rfl rfl HT_.out ?_
                        refine pur (i := 2) (N := some 15) spec_PairsValid.m3 rfl rfl HT_.out ?_
                        refine pur (i := 3) (N := some 16) spec_PairsValid.m4 rfl rfl HT_.out ?_
                        refine take_ (i := 4) (N := some 17) (v := ?_) (a' := ?_) spec_PairsValid.m5 rfl rfl (take_ofW HT_.out HW_.out (by kernel_rfl)) (fun _ _ _ h => h) (Or.inl ⟨by rfl, ?_⟩) hHeld ?_ ?_
                        rotate_left
                        · rintro w' ⟨s0, s1, s2, s3, s4, s5, s6, s7⟩
                          go_simp
                          with_reducible rfl
                        rotate_left; focus (simp only [Act.put, List.setIfInBounds_toArray, List.set_cons_zero, List.set_cons_succ, i64_w, i32_w]; rfl)
                        refine one_ (i := 5) (N := some 18) spec_PairsValid.m6 rfl rfl (one_of HT_.out (by kernel_rfl)) (by decide) (fun K hK => ?_)
                        refine goes_ Try.func113 (by kernel_rfl) rfl #[.string ((rd_T29 l0 x3_1).f0)] (by rfl) rfl rfl (by (try simp only [List.map_toArray, List.map_cons, List.map_nil]); first | done | rfl | (simp only [List.length_drop, List.length_take]; rfl)) ?_
                        with_reducible refine (spec_KeyValid.calls k1 ((rd_T29 l0 x3_1).f0) true _ A5.out).mono ?_
                        rintro e w' ⟨rfl, ⟨nd, rfl⟩⟩
                        refine ⟨_, rfl, ?_⟩
                        refine hK.out _ _ ⟨(hcx HB hw188_0), (hcx HB hw188_1), (hcx HB hw190_0), (hcx HB hw190_1), (hcx HB hw192_0), (hcx HB hw192_1), (hcx HB hw193_0), (hcx HB hw193_1)⟩ (fun hHeld => ?_)
                        clear hK K
                        refine norm_ (a' := ?_) ?_ ?_
                        rotate_left
                        · show Act.put _ (some 18) _ = _
                          simp only [Act.put, List.setIfInBounds_toArray, List.set_cons_zero, List.set_cons_succ, i64_w, i32_w]
                          rfl
                        refine pur (i := 6) (N := some 19) spec_PairsValid.m7 rfl rfl HT_.out ?_
                        refine pur (i := 7) (N := some 20) spec_PairsValid.m8 rfl rfl HT_.out ?_
                        refine pur (i := 8) (N := some 21) spec_PairsValid.m9 rfl rfl HT_.out ?_
                        refine pur (i := 9) (N := some 22) spec_PairsValid.m10 rfl rfl HT_.out ?_
                        refine pur (i := 10) (N := some 23) spec_PairsValid.m11 rfl rfl HT_.out ?_
                        refine pur (i := 11) (N := some 24) spec_PairsValid.m12 rfl rfl HT_.out ?_
                        refine take_ (i := 12) (N := some 25) (v := ?_) (a' := ?_) spec_PairsValid.m13 rfl rfl (take_ofW HT_.out HW_.out (by kernel_rfl)) (fun _ _ _ h => h) (Or.inl ⟨by rfl, ?_⟩) hHeld ?_ ?_
                        rotate_left
                        · rintro w' ⟨s0, s1, s2, s3, s4, s5, s6, s7⟩
                          go_simp
                          with_reducible rfl
                        rotate_left; focus (simp only [Act.put, List.setIfInBounds_toArray, List.set_cons_zero, List.set_cons_succ, i64_w, i32_w]; rfl)
                        refine one_ (i := 13) (N := some 26) spec_PairsValid.m14 rfl rfl (one_of HT_.out (by kernel_rfl)) (by decide) (fun K hK => ?_)
                        refine goes_ Try.func112 (by kernel_rfl) rfl #[.int .i64 ((rd_T29 l0 x3_1).f1), .int .i64 0, .int .i64 999] (by rfl) rfl rfl (by (try simp only [List.map_toArray, List.map_cons, List.map_nil]); first | done | rfl | (simp only [List.length_drop, List.length_take]; rfl)) ?_
                        with_reducible refine (spec_l1In.calls ((rd_T29 l0 x3_1).f1) 0 999 true _ A7.out).mono ?_
                        rintro e w' ⟨rfl, ⟨nd, rfl⟩⟩
                        refine ⟨_, rfl, ?_⟩
                        refine hK.out _ _ ⟨(hcx HB hw188_0), (hcx HB hw188_1), (hcx HB hw190_0), (hcx HB hw190_1), (hcx HB hw192_0), (hcx HB hw192_1), (hcx HB hw193_0), (hcx HB hw193_1)⟩ (fun hHeld => ?_)
                        clear hK K
                        refine norm_ (a' := ?_) ?_ ?_
                        rotate_left
                        · show Act.put _ (some 26) _ = _
                          simp only [Act.put, List.setIfInBounds_toArray, List.set_cons_zero, List.set_cons_succ, i64_w, i32_w]
                          rfl
                        refine pur (i := 14) (N := some 27) spec_PairsValid.m15 rfl rfl HT_.out ?_
                        refine pur (i := 15) (N := some 28) spec_PairsValid.m16 rfl rfl HT_.out ?_
                        refine pur (i := 16) (N := some 29) spec_PairsValid.m17 rfl rfl HT_.out ?_
                        refine pur (i := 17) (N := some 30) spec_PairsValid.m18 rfl rfl HT_.out ?_
                        refine pur (i := 18) (N := some 31) spec_PairsValid.m19 rfl rfl HT_.out ?_
                        refine pur (i := 19) (N := some 32) spec_PairsValid.m20 rfl rfl HT_.out ?_
                        refine pur (i := 20) (N := some 33) spec_PairsValid.m21 rfl rfl HT_.out ?_
                        refine pur (i := 21) (N := some 34) spec_PairsValid.m22 rfl rfl HT_.out ?_
                        refine pur (i := 22) (N := some 35) spec_PairsValid.m23 rfl rfl HT_.out ?_
                        refine pur (i := 23) (N := some 36) spec_PairsValid.m24 rfl rfl HT_.out ?_
                        refine pur (i := 25) (N := some 38) spec_PairsValid.m25 rfl rfl HT_.out ?_
                        refine pur (i := 26) (N := some 39) spec_PairsValid.m26 rfl rfl HT_.out ?_
                        refine pur (i := 27) (N := some 40) spec_PairsValid.m27 rfl rfl HT_.out ?_
                        refine pur (i := 28) (N := some 41) spec_PairsValid.m28 rfl rfl HT_.out ?_
                        refine pur (i := 29) (N := some 42) spec_PairsValid.m29 rfl rfl HT_.out ?_
                        refine take_ (i := 24) (N := some 37) (v := ?_) (a' := ?_) spec_PairsValid.m30 rfl rfl (take_ofW HT_.out HW_.out (by kernel_rfl)) (fun _ _ _ h => h) (Or.inl ⟨by rfl, ?_⟩) hHeld ?_ ?_
                        rotate_left
                        · rintro w' ⟨s0, s1, s2, s3, s4, s5, s6, s7⟩
                          go_simp
                          with_reducible rfl
                        rotate_left; focus (simp only [Act.put, List.setIfInBounds_toArray, List.set_cons_zero, List.set_cons_succ, i64_w, i32_w]; rfl)
                        refine take_ (i := 30) (N := some 43) (v := ?_) (a' := ?_) spec_PairsValid.m31 rfl rfl (take_ofW HT_.out HW_.out (by kernel_rfl)) (fun _ _ _ h => h) (Or.inl ⟨by rfl, ?_⟩) hHeld ?_ ?_
                        rotate_left
                        · rintro w' ⟨s0, s1, s2, s3, s4, s5, s6, s7⟩
                          go_simp
                          with_reducible rfl
                        rotate_left; focus (simp only [Act.put, List.setIfInBounds_toArray, List.set_cons_zero, List.set_cons_succ, i64_w, i32_w]; rfl)
                        refine pur (i := 31) (N := some 44) spec_PairsValid.m32 rfl rfl HT_.out ?_
                        refine pur (i := 32) (N := some 45) spec_PairsValid.m33 rfl rfl HT_.out ?_
                        refine pur (i := 33) (N := some 46) spec_PairsValid.m34 rfl rfl HT_.out ?_
                        refine done_ (done_of HT_.out (by kernel_rfl)) ?_
                        try go_wp2
                        go_ret
                        exact ⟨by first | rfl | (simp [errW_none, errW_some] <;> rfl) | (simp only [← hji10]; first | rfl | (simp [errW_none, errW_some] <;> rfl)) | (simp [*, errW_none, errW_some] <;> rfl) | (simp only [IntKind.wrap_u8, show ∀ n_ : Int, wrap64 (n_ % 256) = n_ % 256 from fun n_ => by unfold wrap64; omega]; rfl), bp HB.out⟩
                    · rw [if_neg c12] at H
                      exact absurd H (by simp)
                  · rw [if_neg c11] at H
                    exact absurd H (by simp)
                · rw [if_neg c9] at H
                  have c9b0 : decide (0 < x3_1) = false := decide_eq_false c9
                  clear c9
                  have H' := Aside0.mk H
                  clear H
                  try go_wp2
                  have n0_ := Aside0.mk (below_drew1 HB.out)
                  clear HB
                  have HB := n0_
                  clear n0_
                  have p188 : 0 ≤ (x3_1 : Int) := of_decide_eq_true (by first | (with_reducible assumption) | assumption)
                  have q188 : x3_1 < (l0.length : Int) := of_decide_eq_true (by first | (with_reducible assumption) | assumption)
                  obtain ⟨ad188, e188, hx188_0, hx188_1⟩ := at_T29 HR0.out x3_1 p188 q188
                  have hw188_1 := hx188_1
                  have hw188_0 := hx188_0
                  cases e188
                  replace hx188_0 := hcx HB hx188_0
                  replace hx188_1 := hcx HB hx188_1
                  replace p188 := eq_true p188
                  replace q188 := eq_true q188
                  have p190 : 0 ≤ (x3_1 : Int) := of_decide_eq_true (by first | (with_reducible assumption) | assumption)
                  have q190 : x3_1 < (l0.length : Int) := of_decide_eq_true (by first | (with_reducible assumption) | assumption)
                  obtain ⟨ad190, e190, hx190_0, hx190_1⟩ := at_T29 HR0.out x3_1 p190 q190
                  have hw190_1 := hx190_1
                  have hw190_0 := hx190_0
                  obtain rfl : ad188 = ad190 := (by injection e190)
                  replace hx190_0 := hcx HB hx190_0
                  replace hx190_1 := hcx HB hx190_1
                  replace p190 := eq_true p190
                  replace q190 := eq_true q190
                  refine start_ (n := 34) (S := fun w' => w'.cell? (ad188.add ((x3_1).toNat * 2)) = some (.string ((rd_T29 l0 x3_1).f0)) ∧ w'.cell? ⟨(ad188.add ((x3_1).toNat * 2)).block, (ad188.add ((x3_1).toNat * 2)).off + 1, none⟩ = some (.int .i64 ((rd_T29 l0 x3_1).f1)) ∧ w'.cell? (ad188.add ((x3_1).toNat * 2)) = some (.string ((rd_T29 l0 x3_1).f0)) ∧ w'.cell? ⟨(ad188.add ((x3_1).toNat * 2)).block, (ad188.add ((x3_1).toNat * 2)).off + 1, none⟩ = some (.int .i64 ((rd_T29 l0 x3_1).f1))) (ds := []) spec_PairsValid.m0 (by kernel_rfl) rfl rfl ⟨(hcx HB hw188_0), (hcx HB hw188_1), (hcx HB hw190_0), (hcx HB hw190_1)⟩ (fun hHeld => ?_); refine with_tabW spec_PairsValid.tab6 spec_PairsValid.bits6 (fun HT_ HW_ => ?_)
                  generalize wr.drew = w16 at HB hx188_0 hx188_1 hx190_0 hx190_1 hHeld ⊢
                  refine pur (i := 0) (N := some 13) spec_PairsValid.m1 rfl rfl HT_.out ?_
                  refine pur (i := 1) (N := some 14) spec_PairsValid.m2 rfl rfl HT_.out ?_
                  refine pur (i := 2) (N := some 15) spec_PairsValid.m3 rfl rfl HT_.out ?_
                  refine pur (i := 3) (N := some 16) spec_PairsValid.m4 rfl rfl HT_.out ?_
                  refine take_ (i := 4) (N := some 17) (v := ?_) (a' := ?_) spec_PairsValid.m5 rfl rfl (take_ofW HT_.out HW_.out (by kernel_rfl)) (fun _ _ _ h => h) (Or.inl ⟨by rfl, ?_⟩) hHeld ?_ ?_
                  rotate_left
                  · rintro w' ⟨s0, s1, s2, s3⟩
                    go_simp
                    with_reducible rfl
                  rotate_left; focus (simp only [Act.put, List.setIfInBounds_toArray, List.set_cons_zero, List.set_cons_succ, i64_w, i32_w]; rfl)
                  refine one_ (i := 5) (N := some 18) spec_PairsValid.m6 rfl rfl (one_of HT_.out (by kernel_rfl)) (by decide) (fun K hK => ?_)
                  refine goes_ Try.func113 (by kernel_rfl) rfl #[.string ((rd_T29 l0 x3_1).f0)] (by rfl) rfl rfl (by (try simp only [List.map_toArray, List.map_cons, List.map_nil]); first | done | rfl | (simp only [List.length_drop, List.length_take]; rfl)) ?_
                  with_reducible refine (spec_KeyValid.calls k1 ((rd_T29 l0 x3_1).f0) true _ A5.out).mono ?_
                  rintro e w' ⟨rfl, ⟨nd, rfl⟩⟩
                  refine ⟨_, rfl, ?_⟩
                  refine hK.out _ _ ⟨(hcx HB hw188_0), (hcx HB hw188_1), (hcx HB hw190_0), (hcx HB hw190_1)⟩ (fun hHeld => ?_)
                  clear hK K
                  refine norm_ (a' := ?_) ?_ ?_
                  rotate_left
                  · show Act.put _ (some 18) _ = _
                    simp only [Act.put, List.setIfInBounds_toArray, List.set_cons_zero, List.set_cons_succ, i64_w, i32_w]
                    rfl
                  refine pur (i := 6) (N := some 19) spec_PairsValid.m7 rfl rfl HT_.out ?_
                  refine pur (i := 7) (N := some 20) spec_PairsValid.m8 rfl rfl HT_.out ?_
                  refine pur (i := 8) (N := some 21) spec_PairsValid.m9 rfl rfl HT_.out ?_
                  refine pur (i := 9) (N := some 22) spec_PairsValid.m10 rfl rfl HT_.out ?_
                  refine pur (i := 10) (N := some 23) spec_PairsValid.m11 rfl rfl HT_.out ?_
                  refine pur (i := 11) (N := some 24) spec_PairsValid.m12 rfl rfl HT_.out ?_
                  refine take_ (i := 12) (N := some 25) (v := ?_) (a' := ?_) spec_PairsValid.m13 rfl rfl (take_ofW HT_.out HW_.out (by kernel_rfl)) (fun _ _ _ h => h) (Or.inl ⟨by rfl, ?_⟩) hHeld ?_ ?_
                  rotate_left
                  · rintro w' ⟨s0, s1, s2, s3⟩
                    go_simp
                    with_reducible rfl
                  rotate_left; focus (simp only [Act.put, List.setIfInBounds_toArray, List.set_cons_zero, List.set_cons_succ, i64_w, i32_w]; rfl)
                  refine one_ (i := 13) (N := some 26) spec_PairsValid.m14 rfl rfl (one_of HT_.out (by kernel_rfl)) (by decide) (fun K hK => ?_)
                  refine goes_ Try.func112 (by kernel_rfl) rfl #[.int .i64 ((rd_T29 l0 x3_1).f1), .int .i64 0, .int .i64 999] (by rfl) rfl rfl (by (try simp only [List.map_toArray, List.map_cons, List.map_nil]); first | done | rfl | (simp only [List.length_drop, List.length_take]; rfl)) ?_
                  with_reducible refine (spec_l1In.calls ((rd_T29 l0 x3_1).f1) 0 999 true _ A7.out).mono ?_
                  rintro e w' ⟨rfl, ⟨nd, rfl⟩⟩
                  refine ⟨_, rfl, ?_⟩
                  refine hK.out _ _ ⟨(hcx HB hw188_0), (hcx HB hw188_1), (hcx HB hw190_0), (hcx HB hw190_1)⟩ (fun hHeld => ?_)
                  clear hK K
                  refine norm_ (a' := ?_) ?_ ?_
                  rotate_left
                  · show Act.put _ (some 26) _ = _
                    simp only [Act.put, List.setIfInBounds_toArray, List.set_cons_zero, List.set_cons_succ, i64_w, i32_w]
                    rfl
                  refine pur (i := 14) (N := some 27) spec_PairsValid.m15 rfl rfl HT_.out ?_
                  refine pur (i := 15) (N := some 28) spec_PairsValid.m16 rfl rfl HT_.out ?_
                  refine pur (i := 16) (N := some 29) spec_PairsValid.m17 rfl rfl HT_.out ?_
                  refine pur (i := 17) (N := some 30) spec_PairsValid.m18 rfl rfl HT_.out ?_
                  refine pur (i := 18) (N := some 31) spec_PairsValid.m19 rfl rfl HT_.out ?_
                  refine pur (i := 19) (N := some 32) spec_PairsValid.m20 rfl rfl HT_.out ?_
                  refine puo (i := 20) (N := some 33) spec_PairsValid.m21 rfl rfl HT_.out ?_
                  refine puo (i := 21) (N := some 34) spec_PairsValid.m22 rfl rfl HT_.out ?_
                  refine puo (i := 22) (N := some 35) spec_PairsValid.m23 rfl rfl HT_.out ?_
                  refine puo (i := 23) (N := some 36) spec_PairsValid.m24 rfl rfl HT_.out ?_
                  refine puo (i := 24) (N := some 37) spec_PairsValid.m35 rfl rfl HT_.out ?_
                  refine puo (i := 25) (N := some 38) spec_PairsValid.m36 rfl rfl HT_.out ?_
                  refine puo (i := 26) (N := some 39) spec_PairsValid.m37 rfl rfl HT_.out ?_
                  refine puo (i := 27) (N := some 40) spec_PairsValid.m38 rfl rfl HT_.out ?_
                  refine puo (i := 28) (N := some 41) spec_PairsValid.m39 rfl rfl HT_.out ?_
                  refine puo (i := 29) (N := some 42) spec_PairsValid.m30 rfl rfl HT_.out ?_
                  refine puo (i := 30) (N := some 43) spec_PairsValid.m31 rfl rfl HT_.out ?_
                  refine puo (i := 31) (N := some 44) spec_PairsValid.m32 rfl rfl HT_.out ?_
                  refine pur (i := 32) (N := some 45) spec_PairsValid.m33 rfl rfl HT_.out ?_
                  refine pur (i := 33) (N := some 46) spec_PairsValid.m34 rfl rfl HT_.out ?_
                  refine done_ (done_of HT_.out (by kernel_rfl)) ?_
                  try go_wp2
                  go_roundg k1
                  case measure => have := HK1.out; omega
                  case rel => exact ⟨(wrap64 (x3_1 + 1)), (by first | rfl | (simp; done) | (simp [*]; done) | (simp [bne_nil_, beq_nil_]; done)), H', ⟨by have := HK1.out; omega⟩, ⟨bp HB.out⟩⟩
              · replace c8 := Bool.eq_false_iff.mpr c8
                subst c8
                have H1 : (some false) = some r := by rw [if_neg (show ¬ (false = true) by decide)] at H; exact H
                clear H
                have H := H1
                clear H1
                obtain rfl := Option.some.inj H
                try go_wp2
                have n0_ := Aside0.mk (below_drew1 HB.out)
                clear HB
                have HB := n0_
                clear n0_
                have p188 : 0 ≤ (x3_1 : Int) := of_decide_eq_true (by first | (with_reducible assumption) | assumption)
                have q188 : x3_1 < (l0.length : Int) := of_decide_eq_true (by first | (with_reducible assumption) | assumption)
                obtain ⟨ad188, e188, hx188_0, hx188_1⟩ := at_T29 HR0.out x3_1 p188 q188
                have hw188_1 := hx188_1
                have hw188_0 := hx188_0
                cases e188
                replace hx188_0 := hcx HB hx188_0
                replace hx188_1 := hcx HB hx188_1
                replace p188 := eq_true p188
                replace q188 := eq_true q188
                have p190 : 0 ≤ (x3_1 : Int) := of_decide_eq_true (by first | (with_reducible assumption) | assumption)
                have q190 : x3_1 < (l0.length : Int) := of_decide_eq_true (by first | (with_reducible assumption) | assumption)
                obtain ⟨ad190, e190, hx190_0, hx190_1⟩ := at_T29 HR0.out x3_1 p190 q190
                have hw190_1 := hx190_1
                have hw190_0 := hx190_0
                obtain rfl : ad188 = ad190 := (by injection e190)
                replace hx190_0 := hcx HB hx190_0
                replace hx190_1 := hcx HB hx190_1
                replace p190 := eq_true p190
                replace q190 := eq_true q190
                refine start_ (n := 34) (S := fun w' => w'.cell? (ad188.add ((x3_1).toNat * 2)) = some (.string ((rd_T29 l0 x3_1).f0)) ∧ w'.cell? ⟨(ad188.add ((x3_1).toNat * 2)).block, (ad188.add ((x3_1).toNat * 2)).off + 1, none⟩ = some (.int .i64 ((rd_T29 l0 x3_1).f1)) ∧ w'.cell? (ad188.add ((x3_1).toNat * 2)) = some (.string ((rd_T29 l0 x3_1).f0)) ∧ w'.cell? ⟨(ad188.add ((x3_1).toNat * 2)).block, (ad188.add ((x3_1).toNat * 2)).off + 1, none⟩ = some (.int .i64 ((rd_T29 l0 x3_1).f1))) (ds := []) spec_PairsValid.m0 (by kernel_rfl) rfl rfl ⟨(hcx HB hw188_0), (hcx HB hw188_1), (hcx HB hw190_0), (hcx HB hw190_1)⟩ (fun hHeld => ?_); refine with_tabW spec_PairsValid.tab6 spec_PairsValid.bits6 (fun HT_ HW_ => ?_)
                generalize wr.drew = w17 at HB hx188_0 hx188_1 hx190_0 hx190_1 hHeld ⊢
                refine pur (i := 0) (N := some 13) spec_PairsValid.m1 rfl rfl HT_.out ?_
                refine pur (i := 1) (N := some 14) spec_PairsValid.m2 rfl rfl HT_.out ?_
                refine pur (i := 2) (N := some 15) spec_PairsValid.m3 rfl rfl HT_.out ?_
                refine pur (i := 3) (N := some 16) spec_PairsValid.m4 rfl rfl HT_.out ?_
                refine take_ (i := 4) (N := some 17) (v := ?_) (a' := ?_) spec_PairsValid.m5 rfl rfl (take_ofW HT_.out HW_.out (by kernel_rfl)) (fun _ _ _ h => h) (Or.inl ⟨by rfl, ?_⟩) hHeld ?_ ?_
                rotate_left
                · rintro w' ⟨s0, s1, s2, s3⟩
                  go_simp
                  with_reducible rfl
                rotate_left; focus (simp only [Act.put, List.setIfInBounds_toArray, List.set_cons_zero, List.set_cons_succ, i64_w, i32_w]; rfl)
                refine one_ (i := 5) (N := some 18) spec_PairsValid.m6 rfl rfl (one_of HT_.out (by kernel_rfl)) (by decide) (fun K hK => ?_)
                refine goes_ Try.func113 (by kernel_rfl) rfl #[.string ((rd_T29 l0 x3_1).f0)] (by rfl) rfl rfl (by (try simp only [List.map_toArray, List.map_cons, List.map_nil]); first | done | rfl | (simp only [List.length_drop, List.length_take]; rfl)) ?_
                with_reducible refine (spec_KeyValid.calls k1 ((rd_T29 l0 x3_1).f0) true _ A5.out).mono ?_
                rintro e w' ⟨rfl, ⟨nd, rfl⟩⟩
                refine ⟨_, rfl, ?_⟩
                refine hK.out _ _ ⟨(hcx HB hw188_0), (hcx HB hw188_1), (hcx HB hw190_0), (hcx HB hw190_1)⟩ (fun hHeld => ?_)
                clear hK K
                refine norm_ (a' := ?_) ?_ ?_
                rotate_left
                · show Act.put _ (some 18) _ = _
                  simp only [Act.put, List.setIfInBounds_toArray, List.set_cons_zero, List.set_cons_succ, i64_w, i32_w]
                  rfl
                refine pur (i := 6) (N := some 19) spec_PairsValid.m7 rfl rfl HT_.out ?_
                refine pur (i := 7) (N := some 20) spec_PairsValid.m8 rfl rfl HT_.out ?_
                refine pur (i := 8) (N := some 21) spec_PairsValid.m9 rfl rfl HT_.out ?_
                refine pur (i := 9) (N := some 22) spec_PairsValid.m10 rfl rfl HT_.out ?_
                refine pur (i := 10) (N := some 23) spec_PairsValid.m11 rfl rfl HT_.out ?_
                refine pur (i := 11) (N := some 24) spec_PairsValid.m12 rfl rfl HT_.out ?_
                refine take_ (i := 12) (N := some 25) (v := ?_) (a' := ?_) spec_PairsValid.m13 rfl rfl (take_ofW HT_.out HW_.out (by kernel_rfl)) (fun _ _ _ h => h) (Or.inl ⟨by rfl, ?_⟩) hHeld ?_ ?_
                rotate_left
                · rintro w' ⟨s0, s1, s2, s3⟩
                  go_simp
                  with_reducible rfl
                rotate_left; focus (simp only [Act.put, List.setIfInBounds_toArray, List.set_cons_zero, List.set_cons_succ, i64_w, i32_w]; rfl)
                refine one_ (i := 13) (N := some 26) spec_PairsValid.m14 rfl rfl (one_of HT_.out (by kernel_rfl)) (by decide) (fun K hK => ?_)
                refine goes_ Try.func112 (by kernel_rfl) rfl #[.int .i64 ((rd_T29 l0 x3_1).f1), .int .i64 0, .int .i64 999] (by rfl) rfl rfl (by (try simp only [List.map_toArray, List.map_cons, List.map_nil]); first | done | rfl | (simp only [List.length_drop, List.length_take]; rfl)) ?_
                with_reducible refine (spec_l1In.calls ((rd_T29 l0 x3_1).f1) 0 999 false _ A7.out).mono ?_
                rintro e w' ⟨rfl, ⟨nd, rfl⟩⟩
                refine ⟨_, rfl, ?_⟩
                refine hK.out _ _ ⟨(hcx HB hw188_0), (hcx HB hw188_1), (hcx HB hw190_0), (hcx HB hw190_1)⟩ (fun hHeld => ?_)
                clear hK K
                refine norm_ (a' := ?_) ?_ ?_
                rotate_left
                · show Act.put _ (some 26) _ = _
                  simp only [Act.put, List.setIfInBounds_toArray, List.set_cons_zero, List.set_cons_succ, i64_w, i32_w]
                  rfl
                refine pur (i := 14) (N := some 27) spec_PairsValid.m15 rfl rfl HT_.out ?_
                refine pur (i := 15) (N := some 28) spec_PairsValid.m16 rfl rfl HT_.out ?_
                refine pur (i := 16) (N := some 29) spec_PairsValid.m17 rfl rfl HT_.out ?_
                refine puo (i := 17) (N := some 30) spec_PairsValid.m18 rfl rfl HT_.out ?_
                refine puo (i := 18) (N := some 31) spec_PairsValid.m19 rfl rfl HT_.out ?_
                refine puo (i := 19) (N := some 32) spec_PairsValid.m20 rfl rfl HT_.out ?_
                refine puo (i := 20) (N := some 33) spec_PairsValid.m21 rfl rfl HT_.out ?_
                refine puo (i := 21) (N := some 34) spec_PairsValid.m22 rfl rfl HT_.out ?_
                refine puo (i := 22) (N := some 35) spec_PairsValid.m23 rfl rfl HT_.out ?_
                refine puo (i := 23) (N := some 36) spec_PairsValid.m24 rfl rfl HT_.out ?_
                refine puo (i := 24) (N := some 37) spec_PairsValid.m35 rfl rfl HT_.out ?_
                refine puo (i := 25) (N := some 38) spec_PairsValid.m36 rfl rfl HT_.out ?_
                refine puo (i := 26) (N := some 39) spec_PairsValid.m37 rfl rfl HT_.out ?_
                refine puo (i := 27) (N := some 40) spec_PairsValid.m38 rfl rfl HT_.out ?_
                refine puo (i := 28) (N := some 41) spec_PairsValid.m39 rfl rfl HT_.out ?_
                refine puo (i := 29) (N := some 42) spec_PairsValid.m30 rfl rfl HT_.out ?_
                refine puo (i := 30) (N := some 43) spec_PairsValid.m31 rfl rfl HT_.out ?_
                refine puo (i := 31) (N := some 44) spec_PairsValid.m32 rfl rfl HT_.out ?_
                refine puo (i := 32) (N := some 45) spec_PairsValid.m33 rfl rfl HT_.out ?_
                refine pur (i := 33) (N := some 46) spec_PairsValid.m34 rfl rfl HT_.out ?_
                refine done_ (done_of HT_.out (by kernel_rfl)) ?_
                try go_wp2
                go_ret
                exact ⟨fe, bp HB.out⟩
            · replace c6 := Bool.eq_false_iff.mpr c6
              subst c6
              have H1 : (some false) = some r := by rw [if_neg (show ¬ (false = true) by decide)] at H; exact H
              clear H
              have H := H1
              clear H1
              obtain rfl := Option.some.inj H
              try go_wp2
              have n0_ := Aside0.mk (below_drew1 HB.out)
              clear HB
              have HB := n0_
              clear n0_
              have p188 : 0 ≤ (x3_1 : Int) := of_decide_eq_true (by first | (with_reducible assumption) | assumption)
              have q188 : x3_1 < (l0.length : Int) := of_decide_eq_true (by first | (with_reducible assumption) | assumption)
              obtain ⟨ad188, e188, hx188_0, hx188_1⟩ := at_T29 HR0.out x3_1 p188 q188
              have hw188_1 := hx188_1
              have hw188_0 := hx188_0
              cases e188
              replace hx188_0 := hcx HB hx188_0
              replace hx188_1 := hcx HB hx188_1
              replace p188 := eq_true p188
              replace q188 := eq_true q188
              refine start_ (n := 34) (S := fun w' => w'.cell? (ad188.add ((x3_1).toNat * 2)) = some (.string ((rd_T29 l0 x3_1).f0)) ∧ w'.cell? ⟨(ad188.add ((x3_1).toNat * 2)).block, (ad188.add ((x3_1).toNat * 2)).off + 1, none⟩ = some (.int .i64 ((rd_T29 l0 x3_1).f1))) (ds := []) spec_PairsValid.m0 (by kernel_rfl) rfl rfl ⟨(hcx HB hw188_0), (hcx HB hw188_1)⟩ (fun hHeld => ?_); refine with_tabW spec_PairsValid.tab6 spec_PairsValid.bits6 (fun HT_ HW_ => ?_)
              generalize wr.drew = w18 at HB hx188_0 hx188_1 hHeld ⊢
              refine pur (i := 0) (N := some 13) spec_PairsValid.m1 rfl rfl HT_.out ?_
              refine pur (i := 1) (N := some 14) spec_PairsValid.m2 rfl rfl HT_.out ?_
              refine pur (i := 2) (N := some 15) spec_PairsValid.m3 rfl rfl HT_.out ?_
              refine pur (i := 3) (N := some 16) spec_PairsValid.m4 rfl rfl HT_.out ?_
              refine take_ (i := 4) (N := some 17) (v := ?_) (a' := ?_) spec_PairsValid.m5 rfl rfl (take_ofW HT_.out HW_.out (by kernel_rfl)) (fun _ _ _ h => h) (Or.inl ⟨by rfl, ?_⟩) hHeld ?_ ?_
              rotate_left
              · rintro w' ⟨s0, s1⟩
                go_simp
                with_reducible rfl
              rotate_left; focus (simp only [Act.put, List.setIfInBounds_toArray, List.set_cons_zero, List.set_cons_succ, i64_w, i32_w]; rfl)
              refine one_ (i := 5) (N := some 18) spec_PairsValid.m6 rfl rfl (one_of HT_.out (by kernel_rfl)) (by decide) (fun K hK => ?_)
              refine goes_ Try.func113 (by kernel_rfl) rfl #[.string ((rd_T29 l0 x3_1).f0)] (by rfl) rfl rfl (by (try simp only [List.map_toArray, List.map_cons, List.map_nil]); first | done | rfl | (simp only [List.length_drop, List.length_take]; rfl)) ?_
              with_reducible refine (spec_KeyValid.calls k1 ((rd_T29 l0 x3_1).f0) false _ A5.out).mono ?_
              rintro e w' ⟨rfl, ⟨nd, rfl⟩⟩
              refine ⟨_, rfl, ?_⟩
              refine hK.out _ _ ⟨(hcx HB hw188_0), (hcx HB hw188_1)⟩ (fun hHeld => ?_)
              clear hK K
              refine norm_ (a' := ?_) ?_ ?_
              rotate_left
              · show Act.put _ (some 18) _ = _
                simp only [Act.put, List.setIfInBounds_toArray, List.set_cons_zero, List.set_cons_succ, i64_w, i32_w]
                rfl
              refine pur (i := 6) (N := some 19) spec_PairsValid.m7 rfl rfl HT_.out ?_
              refine pur (i := 7) (N := some 20) spec_PairsValid.m8 rfl rfl HT_.out ?_
              refine puo (i := 8) (N := some 21) spec_PairsValid.m9 rfl rfl HT_.out ?_
              refine puo (i := 9) (N := some 22) spec_PairsValid.m10 rfl rfl HT_.out ?_
              refine puo (i := 10) (N := some 23) spec_PairsValid.m11 rfl rfl HT_.out ?_
              refine puo (i := 11) (N := some 24) spec_PairsValid.m12 rfl rfl HT_.out ?_
              refine puo (i := 12) (N := some 25) spec_PairsValid.m13 rfl rfl HT_.out ?_
              refine puo (i := 13) (N := some 26) spec_PairsValid.m14 rfl rfl HT_.out ?_
              refine puo (i := 14) (N := some 27) spec_PairsValid.m15 rfl rfl HT_.out ?_
              refine pur (i := 15) (N := some 28) spec_PairsValid.m16 rfl rfl HT_.out ?_
              refine pur (i := 16) (N := some 29) spec_PairsValid.m17 rfl rfl HT_.out ?_
              refine puo (i := 17) (N := some 30) spec_PairsValid.m18 rfl rfl HT_.out ?_
              refine puo (i := 18) (N := some 31) spec_PairsValid.m19 rfl rfl HT_.out ?_
              refine puo (i := 19) (N := some 32) spec_PairsValid.m20 rfl rfl HT_.out ?_
              refine puo (i := 20) (N := some 33) spec_PairsValid.m21 rfl rfl HT_.out ?_
              refine puo (i := 21) (N := some 34) spec_PairsValid.m22 rfl rfl HT_.out ?_
              refine puo (i := 22) (N := some 35) spec_PairsValid.m23 rfl rfl HT_.out ?_
              refine puo (i := 23) (N := some 36) spec_PairsValid.m24 rfl rfl HT_.out ?_
              refine puo (i := 24) (N := some 37) spec_PairsValid.m35 rfl rfl HT_.out ?_
              refine puo (i := 25) (N := some 38) spec_PairsValid.m36 rfl rfl HT_.out ?_
              refine puo (i := 26) (N := some 39) spec_PairsValid.m37 rfl rfl HT_.out ?_
              refine puo (i := 27) (N := some 40) spec_PairsValid.m38 rfl rfl HT_.out ?_
              refine puo (i := 28) (N := some 41) spec_PairsValid.m39 rfl rfl HT_.out ?_
              refine puo (i := 29) (N := some 42) spec_PairsValid.m30 rfl rfl HT_.out ?_
              refine puo (i := 30) (N := some 43) spec_PairsValid.m31 rfl rfl HT_.out ?_
              refine puo (i := 31) (N := some 44) spec_PairsValid.m32 rfl rfl HT_.out ?_
              refine puo (i := 32) (N := some 45) spec_PairsValid.m33 rfl rfl HT_.out ?_
              refine pur (i := 33) (N := some 46) spec_PairsValid.m34 rfl rfl HT_.out ?_
              refine done_ (done_of HT_.out (by kernel_rfl)) ?_
              try go_wp2
              go_ret
              exact ⟨fe, bp HB.out⟩
          · rw [if_neg c4] at H
            exact absurd H (by simp)
        · rw [if_neg c3] at H
          have c3b0 : decide (x3_1 < (l0.length : Int)) = false := decide_eq_false c3
          clear c3
          obtain rfl := Option.some.inj H
          go_wp2
          go_ret
          exact ⟨fe, bp HB.out⟩

/-! ### spec_l4Place: function 136 -/
def spec_l4Place.l0 : Nat → List (S29) → ByteArray → Int → Option (Int)
  | 0, _, _, _ => none
  | k + 1, x0, x1, x5 => if x5 < (x0.length : Int) then (if 0 ≤ x5 then (if (Op.bytesLess (((rd_T29 x0 x5).f0).toList) x1.toList) = true then (spec_l4Place.l0 k x0 x1 (wrap64 (x5 + 1))) else (some x5)) else (none)) else (some x5)
def spec_l4Place.f (k : Nat) (l0 : List (S29)) (a1 : ByteArray) : Option (Int) := spec_l4Place.l0 k l0 a1 0
theorem spec_l4Place.mono_l : ∀ k, (∀ y0 y1 y2, LeO (spec_l4Place.l0 k y0 y1 y2) (spec_l4Place.l0 (k + 1) y0 y1 y2))
  | 0 => fun _ _ _ r h => by simp [spec_l4Place.l0] at h
  | k + 1 => by
    have ih0 := spec_l4Place.mono_l k
    · intro y0 y1 y2
      unfold spec_l4Place.l0
      repeat' first
      | (with_reducible exact ih0 _ _ _)
      | (with_reducible exact LeO.refl _)
      | (with_reducible exact LeO.none _)
      | (with_reducible refine LeO.ite ?_ ?_)
      | (with_reducible refine LeO.bind ?_ (fun _ => ?_))
      | exact ih0 _ _ _
      | exact LeO.none _
      | refine LeO.ite ?_ ?_
      | refine LeO.bind ?_ (fun _ => ?_)
theorem spec_l4Place.mono : ∀ a0 a1 k, LeO (spec_l4Place.f k a0 a1) (spec_l4Place.f (k + 1) a0 a1) := by
  intro a0 a1 k
  have ih0 := spec_l4Place.mono_l k
  unfold spec_l4Place.f
  repeat' first
      | (with_reducible exact ih0 _ _ _)
      | (with_reducible exact LeO.refl _)
      | (with_reducible exact LeO.none _)
      | (with_reducible refine LeO.ite ?_ ?_)
      | (with_reducible refine LeO.bind ?_ (fun _ => ?_))
      | exact ih0 _ _ _
      | exact LeO.none _
      | refine LeO.ite ?_ ?_
      | refine LeO.bind ?_ (fun _ => ?_)
set_option maxHeartbeats 8000000 in
set_option maxRecDepth 100000 in
theorem spec_l4Place.calls (k : Nat) (A0 : Option Addr) (c0 : Nat) (l0 : List (S29)) (a1 : ByteArray) (r : Int) (w : World) (hr0 : Kd.C k29 w A0 l0.length l0) (hc0 : l0.length ≤ c0) (h : spec_l4Place.f k l0 a1 = some r) :
    Calls Try.prog 136 #[.slice A0 l0.length c0, .string a1] w fun e w' => e = .returned (.int .i64 r) ∧ Drawn0 w w' := by
  have HR0 := Aside0.mk hr0
  have HC0 := Aside0.mk hc0
  clear hr0 hc0
  have H : (spec_l4Place.l0 k l0 a1 0) = some r := h
  clear h
  have H' := Aside0.mk H
  clear H
  go_enter Try.func136, Try.ntmps136
  go_wp2
  go_loopg [5] k (fun kq v5 w' => ∃ (x5_1 : Int), v5 = .int .i64 x5_1 ∧ Aside0 (spec_l4Place.l0 kq l0 a1 x5_1 = some r) ∧ Aside0 (kq ≤ k) ∧ Drawn0 w w')
  case atStart => exact ⟨(0), (by first | rfl | (simp; done) | (simp [*]; done) | (simp [bne_nil_, beq_nil_]; done)), H', ⟨Nat.le_refl _⟩, by repeat (first | exact Drawn0.refl _ | apply Drawn0.step)⟩
  case round =>
    clear H'
    try clear c1
    try clear p2
    obtain ⟨x5_1, rfl, HA, HK1, ⟨m1, rfl⟩⟩ := hrel
    cases gk with
    | zero => exact absurd HA.out (by simp [spec_l4Place.l0])
    | succ k1 =>
      have H := HA.out
      clear HA
      simp only [spec_l4Place.l0] at H
      by_cases c3 : x5_1 < (l0.length : Int)
      · rw [if_pos c3] at H
        have c3b0 : decide (x5_1 < (l0.length : Int)) = true := decide_eq_true c3
        clear c3
        by_cases c4 : 0 ≤ x5_1
        · rw [if_pos c4] at H
          have c4b0 : decide (0 ≤ x5_1) = true := decide_eq_true c4
          clear c4
          by_cases c5 : (Op.bytesLess (((rd_T29 l0 x5_1).f0).toList) a1.toList) = true
          · rw [if_pos c5] at H
            have c5b0 : (Op.bytesLess (((rd_T29 l0 x5_1).f0).toList) a1.toList) = true := c5
            clear c5
            have H' := Aside0.mk H
            clear H
            have p194 : 0 ≤ (x5_1 : Int) := of_decide_eq_true (by first | (with_reducible assumption) | assumption)
            have q194 : x5_1 < (l0.length : Int) := of_decide_eq_true (by first | (with_reducible assumption) | assumption)
            obtain ⟨ad194, e194, hx194_0, hx194_1⟩ := at_T29 HR0.out x5_1 p194 q194
            cases e194
            replace p194 := eq_true p194
            replace q194 := eq_true q194
            go_wp2
            go_roundg k1
            case measure => have := HK1.out; omega
            case rel => exact ⟨(wrap64 (x5_1 + 1)), (by first | rfl | (simp; done) | (simp [*]; done) | (simp [bne_nil_, beq_nil_]; done)), H', ⟨by have := HK1.out; omega⟩, by repeat (first | exact Drawn0.refl _ | apply Drawn0.step)⟩
          · rw [if_neg c5] at H
            have c5b0 : (Op.bytesLess (((rd_T29 l0 x5_1).f0).toList) a1.toList) = false := by simpa using c5
            clear c5
            obtain rfl := Option.some.inj H
            have p194 : 0 ≤ (x5_1 : Int) := of_decide_eq_true (by first | (with_reducible assumption) | assumption)
            have q194 : x5_1 < (l0.length : Int) := of_decide_eq_true (by first | (with_reducible assumption) | assumption)
            obtain ⟨ad194, e194, hx194_0, hx194_1⟩ := at_T29 HR0.out x5_1 p194 q194
            cases e194
            replace p194 := eq_true p194
            replace q194 := eq_true q194
            go_wp2
            go_ret
            exact ⟨by first | rfl | (simp; done) | (simp [*]; done) | (simp [bne_nil_, beq_nil_]; done), by repeat (first | exact Drawn0.refl _ | apply Drawn0.step)⟩
        · rw [if_neg c4] at H
          exact absurd H (by simp)
      · rw [if_neg c3] at H
        have c3b0 : decide (x5_1 < (l0.length : Int)) = false := decide_eq_false c3
        clear c3
        obtain rfl := Option.some.inj H
        go_wp2
        go_ret
        exact ⟨by first | rfl | (simp; done) | (simp [*]; done) | (simp [bne_nil_, beq_nil_]; done), by repeat (first | exact Drawn0.refl _ | apply Drawn0.step)⟩

end Go.Proofs.Ytfeeifefmenlmaa.PFnRealTime
