-- Written by a program of this session, in the manner of the kit's print (wip/pp.py): functions and their contracts.
import Derived.Test.YtfeeifefmenlmaaPFnExactPartDigestsx0
import Derived.Test.YtfeeifefmenlmaaPFnExactPartDigestsx5
import Derived.Test.YtfeeifefmenlmaaPFnExactPartDigestsx6
namespace Go.Proofs.Ytfeeifefmenlmaa.PFnExactPartDigests
open Go.RowKit Go.Proofs.YtfeeifefmenlmaaW.PrintWords Go.Proofs.YtfeeifefmenlmaaW.PrintLast Go.Proofs.YtfeeifefmenlmaaW.PrintMore
attribute [local go_sem] binOp_leq_str binOp_gtr_str binOp_geq_str max2_int min2_int max_two min_two max_three min_three max_four min_four   -- for this text's walks alone
set_option linter.unusedVariables false
set_option linter.unusedSimpArgs false

/-! ### spec_l1Weight: function 158 -/
def spec_l1Weight.f (a0 : Int) : Option (Int) := if a0 = 0 then (some 18279) else (if a0 = 1 then (some 703) else (if a0 = 2 then (some 27) else (some 1)))
set_option maxHeartbeats 8000000 in
set_option maxRecDepth 100000 in
theorem spec_l1Weight.calls (a0 : Int) (r : Int) (w : World) (h : spec_l1Weight.f a0 = some r) :
    Calls Try.prog 158 #[.int .i64 a0] w fun e w' => e = .returned (.int .i64 r) ∧ Drawn0 w w' := by
  have H : (if a0 = 0 then (some 18279) else (if a0 = 1 then (some 703) else (if a0 = 2 then (some 27) else (some 1)))) = some r := h
  clear h
  by_cases c2 : a0 = 0
  · rw [if_pos c2] at H
    have c2b0 : (a0 == 0) = true := beq_iff_eq.mpr c2
    have c2b1 : (a0 != 0) = false := bne_eq_false_iff_eq.mpr c2
    clear c2
    obtain rfl := Option.some.inj H
    go_enter Try.func158, Try.ntmps158
    go_wp2
    go_ret
    exact ⟨by first | rfl | (simp; done) | (simp [*]; done) | (simp [bne_nil_, beq_nil_]; done), by repeat (first | exact Drawn0.refl _ | apply Drawn0.step)⟩
  · rw [if_neg c2] at H
    have c2b0 : (a0 == 0) = false := beq_eq_false_iff_ne.mpr c2
    have c2b1 : (a0 != 0) = true := bne_iff_ne.mpr c2
    by_cases c3 : a0 = 1
    · rw [if_pos c3] at H
      have c3b0 : (a0 == 1) = true := beq_iff_eq.mpr c3
      have c3b1 : (a0 != 1) = false := bne_eq_false_iff_eq.mpr c3
      clear c3
      obtain rfl := Option.some.inj H
      go_enter Try.func158, Try.ntmps158
      go_wp2
      go_ret
      exact ⟨by first | rfl | (simp; done) | (simp [*]; done) | (simp [bne_nil_, beq_nil_]; done), by repeat (first | exact Drawn0.refl _ | apply Drawn0.step)⟩
    · rw [if_neg c3] at H
      have c3b0 : (a0 == 1) = false := beq_eq_false_iff_ne.mpr c3
      have c3b1 : (a0 != 1) = true := bne_iff_ne.mpr c3
      by_cases c4 : a0 = 2
      · rw [if_pos c4] at H
        have c4b0 : (a0 == 2) = true := beq_iff_eq.mpr c4
        have c4b1 : (a0 != 2) = false := bne_eq_false_iff_eq.mpr c4
        clear c4
        obtain rfl := Option.some.inj H
        go_enter Try.func158, Try.ntmps158
        go_wp2
        go_ret
        exact ⟨by first | rfl | (simp; done) | (simp [*]; done) | (simp [bne_nil_, beq_nil_]; done), by repeat (first | exact Drawn0.refl _ | apply Drawn0.step)⟩
      · rw [if_neg c4] at H
        have c4b0 : (a0 == 2) = false := beq_eq_false_iff_ne.mpr c4
        have c4b1 : (a0 != 2) = true := bne_iff_ne.mpr c4
        obtain rfl := Option.some.inj H
        go_enter Try.func158, Try.ntmps158
        go_wp2
        go_ret
        exact ⟨by first | rfl | (simp; done) | (simp [*]; done) | (simp [bne_nil_, beq_nil_]; done), by repeat (first | exact Drawn0.refl _ | apply Drawn0.step)⟩

/-! ### spec_KeyRank: function 126 -/
def spec_KeyRank.l0 : Nat → ByteArray → Int → Int → Option (Int)
  | 0, _, _, _ => none
  | k + 1, x0, x3, x4 => if x4 < (x0.size : Int) then (if 0 ≤ x4 then ((spec_l1Weight.f x4).bind fun t220 => (spec_KeyRank.l0 k x0 (wrap64 ((wrap64 (x3 + 1)) + (wrap64 ((((bt x0 x4) - 97) % 256) * t220)))) (wrap64 (x4 + 1)))) else (none)) else (some x3)
def spec_KeyRank.f (k : Nat) (a0 : ByteArray) : Option (Int) := (spec_KeyValid.f k a0).bind fun t219 => (if t219 = true then (spec_KeyRank.l0 k a0 (-1) 0) else (some (-1)))
theorem spec_KeyRank.mono_l : ∀ k, (∀ y0 y1 y2, LeO (spec_KeyRank.l0 k y0 y1 y2) (spec_KeyRank.l0 (k + 1) y0 y1 y2))
  | 0 => fun _ _ _ r h => by simp [spec_KeyRank.l0] at h
  | k + 1 => by
    have ih0 := spec_KeyRank.mono_l k
    · intro y0 y1 y2
      unfold spec_KeyRank.l0
      repeat' first
      | (with_reducible exact ih0 _ _ _)
      | (with_reducible exact spec_KeyValid.mono _ _)
      | (with_reducible exact LeO.refl _)
      | (with_reducible exact LeO.none _)
      | (with_reducible refine LeO.ite ?_ ?_)
      | (with_reducible refine LeO.bind ?_ (fun _ => ?_))
      | exact ih0 _ _ _
      | exact spec_KeyValid.mono _ _
      | exact LeO.none _
      | refine LeO.ite ?_ ?_
      | refine LeO.bind ?_ (fun _ => ?_)
theorem spec_KeyRank.mono : ∀ a0 k, LeO (spec_KeyRank.f k a0) (spec_KeyRank.f (k + 1) a0) := by
  intro a0 k
  have ih0 := spec_KeyRank.mono_l k
  unfold spec_KeyRank.f
  repeat' first
      | (with_reducible exact ih0 _ _ _)
      | (with_reducible exact spec_KeyValid.mono _ _)
      | (with_reducible exact LeO.refl _)
      | (with_reducible exact LeO.none _)
      | (with_reducible refine LeO.ite ?_ ?_)
      | (with_reducible refine LeO.bind ?_ (fun _ => ?_))
      | exact ih0 _ _ _
      | exact spec_KeyValid.mono _ _
      | exact LeO.none _
      | refine LeO.ite ?_ ?_
      | refine LeO.bind ?_ (fun _ => ?_)
set_option maxHeartbeats 8000000 in
set_option maxRecDepth 100000 in
theorem spec_KeyRank.calls (k : Nat) (a0 : ByteArray) (r : Int) (w : World) (h : spec_KeyRank.f k a0 = some r) :
    Calls Try.prog 126 #[.string a0] w fun e w' => e = .returned (.int .i64 r) ∧ Drawn0 w w' := by
  have H : ((spec_KeyValid.f k a0).bind fun t219 => (if t219 = true then (spec_KeyRank.l0 k a0 (-1) 0) else (some (-1)))) = some r := h
  clear h
  replace H := Option.bind_eq_some_iff.mp H
  obtain ⟨t219, A20, H⟩ := H
  replace H : (if t219 = true then (spec_KeyRank.l0 k a0 (-1) 0) else (some (-1))) = some r := H
  have A2 := Aside0.mk A20
  clear A20
  by_cases c3 : t219 = true
  · subst c3
    have H1 : (spec_KeyRank.l0 k a0 (-1) 0) = some r := by rw [if_pos rfl] at H; exact H
    clear H
    have H := H1
    clear H1
    have H' := Aside0.mk H
    clear H
    go_enter Try.func126, Try.ntmps126
    go_wp2_with (first | (go_at_call 113; (with_reducible refine (spec_KeyValid.calls k a0 true _ A2.out).mono ?_); rintro e w' ⟨rfl, ⟨nd, rfl⟩⟩; (try first | exact ⟨rfl, _, World.drewN_drewN _ _ _⟩ | exact ⟨rfl, _, Eq.trans (World.drewN_drewN _ _ _) (congrArg (World.drewN _) (Nat.add_assoc _ _ _))⟩)))
    repeat (go_quiet (first | (go_at_call 113; (with_reducible refine (spec_KeyValid.calls k a0 true _ A2.out).mono ?_); rintro e w' ⟨rfl, ⟨nd, rfl⟩⟩; (try first | exact ⟨rfl, _, World.drewN_drewN _ _ _⟩ | exact ⟨rfl, _, Eq.trans (World.drewN_drewN _ _ _) (congrArg (World.drewN _) (Nat.add_assoc _ _ _))⟩))); try go_wp2_with (first | (go_at_call 113; (with_reducible refine (spec_KeyValid.calls k a0 true _ A2.out).mono ?_); rintro e w' ⟨rfl, ⟨nd, rfl⟩⟩; (try first | exact ⟨rfl, _, World.drewN_drewN _ _ _⟩ | exact ⟨rfl, _, Eq.trans (World.drewN_drewN _ _ _) (congrArg (World.drewN _) (Nat.add_assoc _ _ _))⟩))))
    go_loopg [3, 4] k (fun kq v3 v4 w' => ∃ (x3_1 : Int) (x4_1 : Int), v3 = .int .i64 x3_1 ∧ v4 = .int .i64 x4_1 ∧ Aside0 (spec_KeyRank.l0 kq a0 x3_1 x4_1 = some r) ∧ Aside0 (kq ≤ k) ∧ Drawn0 w w')
    case atStart => exact ⟨((-1)), (0), (by first | rfl | (simp; done) | (simp [*]; done) | (simp [bne_nil_, beq_nil_]; done)), (by first | rfl | (simp; done) | (simp [*]; done) | (simp [bne_nil_, beq_nil_]; done)), H', ⟨Nat.le_refl _⟩, by repeat (first | exact Drawn0.refl _ | apply Drawn0.step)⟩
    case round =>
      clear H'
      try clear c1
      try clear p2
      try clear c3
      obtain ⟨x3_1, x4_1, rfl, rfl, HA, HK1, ⟨m1, rfl⟩⟩ := hrel
      cases gk with
      | zero => exact absurd HA.out (by simp [spec_KeyRank.l0])
      | succ k1 =>
        have H := HA.out
        clear HA
        simp only [spec_KeyRank.l0] at H
        by_cases c4 : x4_1 < (a0.size : Int)
        · rw [if_pos c4] at H
          have c4b0 : decide (x4_1 < (a0.size : Int)) = true := decide_eq_true c4
          clear c4
          by_cases c5 : 0 ≤ x4_1
          · rw [if_pos c5] at H
            have c5b0 : decide (0 ≤ x4_1) = true := decide_eq_true c5
            clear c5
            replace H := Option.bind_eq_some_iff.mp H
            obtain ⟨t220, A70, H⟩ := H
            replace H : (spec_KeyRank.l0 k1 a0 (wrap64 ((wrap64 (x3_1 + 1)) + (wrap64 ((((bt a0 x4_1) - 97) % 256) * t220)))) (wrap64 (x4_1 + 1))) = some r := H
            have A7 := Aside0.mk A70
            clear A70
            have H' := Aside0.mk H
            clear H
            have p6 : 0 ≤ (x4_1 : Int) := of_decide_eq_true (by first | (with_reducible assumption) | assumption)
            have q6 : x4_1 < (a0.size : Int) := of_decide_eq_true (by first | (with_reducible assumption) | assumption)
            have hx6 := bt_at a0 x4_1
            replace p6 := eq_true p6
            replace q6 := eq_true q6
            go_wp2_with (first | (go_at_call 158; (with_reducible refine (spec_l1Weight.calls x4_1 t220 _ A7.out).mono ?_); rintro e w' ⟨rfl, ⟨nd, rfl⟩⟩; (try first | exact ⟨rfl, _, World.drewN_drewN _ _ _⟩ | exact ⟨rfl, _, Eq.trans (World.drewN_drewN _ _ _) (congrArg (World.drewN _) (Nat.add_assoc _ _ _))⟩)))
            repeat (go_quiet (first | (go_at_call 158; (with_reducible refine (spec_l1Weight.calls x4_1 t220 _ A7.out).mono ?_); rintro e w' ⟨rfl, ⟨nd, rfl⟩⟩; (try first | exact ⟨rfl, _, World.drewN_drewN _ _ _⟩ | exact ⟨rfl, _, Eq.trans (World.drewN_drewN _ _ _) (congrArg (World.drewN _) (Nat.add_assoc _ _ _))⟩))); try go_wp2_with (first | (go_at_call 158; (with_reducible refine (spec_l1Weight.calls x4_1 t220 _ A7.out).mono ?_); rintro e w' ⟨rfl, ⟨nd, rfl⟩⟩; (try first | exact ⟨rfl, _, World.drewN_drewN _ _ _⟩ | exact ⟨rfl, _, Eq.trans (World.drewN_drewN _ _ _) (congrArg (World.drewN _) (Nat.add_assoc _ _ _))⟩))))
            go_roundg k1
            case measure => have := HK1.out; omega
            case rel => exact ⟨(wrap64 ((wrap64 (x3_1 + 1)) + (wrap64 ((((bt a0 x4_1) - 97) % 256) * t220)))), (wrap64 (x4_1 + 1)), (by first | rfl | (simp; done) | (simp [*]; done) | (simp [bne_nil_, beq_nil_]; done)), (by first | rfl | (simp; done) | (simp [*]; done) | (simp [bne_nil_, beq_nil_]; done)), H', ⟨by have := HK1.out; omega⟩, by repeat (first | exact Drawn0.refl _ | apply Drawn0.step)⟩
          · rw [if_neg c5] at H
            exact absurd H (by simp)
        · rw [if_neg c4] at H
          have c4b0 : decide (x4_1 < (a0.size : Int)) = false := decide_eq_false c4
          clear c4
          obtain rfl := Option.some.inj H
          go_wp2
          repeat (go_quiet (fail); try go_wp2)
          go_ret
          exact ⟨by first | rfl | (simp; done) | (simp [*]; done) | (simp [bne_nil_, beq_nil_]; done), by repeat (first | exact Drawn0.refl _ | apply Drawn0.step)⟩
  · replace c3 := Bool.eq_false_iff.mpr c3
    subst c3
    have H1 : (some (-1)) = some r := by rw [if_neg (show ¬ (false = true) by decide)] at H; exact H
    clear H
    have H := H1
    clear H1
    obtain rfl := Option.some.inj H
    go_enter Try.func126, Try.ntmps126
    go_wp2_with (first | (go_at_call 113; (with_reducible refine (spec_KeyValid.calls k a0 false _ A2.out).mono ?_); rintro e w' ⟨rfl, ⟨nd, rfl⟩⟩; (try first | exact ⟨rfl, _, World.drewN_drewN _ _ _⟩ | exact ⟨rfl, _, Eq.trans (World.drewN_drewN _ _ _) (congrArg (World.drewN _) (Nat.add_assoc _ _ _))⟩)))
    repeat (go_quiet (first | (go_at_call 113; (with_reducible refine (spec_KeyValid.calls k a0 false _ A2.out).mono ?_); rintro e w' ⟨rfl, ⟨nd, rfl⟩⟩; (try first | exact ⟨rfl, _, World.drewN_drewN _ _ _⟩ | exact ⟨rfl, _, Eq.trans (World.drewN_drewN _ _ _) (congrArg (World.drewN _) (Nat.add_assoc _ _ _))⟩))); try go_wp2_with (first | (go_at_call 113; (with_reducible refine (spec_KeyValid.calls k a0 false _ A2.out).mono ?_); rintro e w' ⟨rfl, ⟨nd, rfl⟩⟩; (try first | exact ⟨rfl, _, World.drewN_drewN _ _ _⟩ | exact ⟨rfl, _, Eq.trans (World.drewN_drewN _ _ _) (congrArg (World.drewN _) (Nat.add_assoc _ _ _))⟩))))
    go_ret
    exact ⟨by first | rfl | (simp; done) | (simp [*]; done) | (simp [bne_nil_, beq_nil_]; done), by repeat (first | exact Drawn0.refl _ | apply Drawn0.step)⟩

/-! ### spec_PairDigest: function 73 -/
def spec_PairDigest.f (k : Nat) (a0_0 : ByteArray) (a0_1 : Int) : Option (Int) := (spec_KeyValid.f k a0_0).bind fun t222 => (if t222 = true then ((spec_l1In.f a0_1 0 999).bind fun t223 => (if t223 = true then ((spec_KeyRank.f k a0_0).bind fun t224 => (some (Int.tmod (wrap64 ((wrap64 ((wrap64 (1009 * t224)) + (wrap64 (7 * a0_1)))) + 3)) 99991))) else (some (-1)))) else (some (-1)))
theorem spec_PairDigest.mono : ∀ a0 a1 k, LeO (spec_PairDigest.f k a0 a1) (spec_PairDigest.f (k + 1) a0 a1) := by
  intro a0 a1 k
  unfold spec_PairDigest.f
  repeat' first
      | (with_reducible exact spec_KeyRank.mono _ _)
      | (with_reducible exact spec_KeyValid.mono _ _)
      | (with_reducible exact LeO.refl _)
      | (with_reducible exact LeO.none _)
      | (with_reducible refine LeO.ite ?_ ?_)
      | (with_reducible refine LeO.bind ?_ (fun _ => ?_))
      | exact spec_KeyRank.mono _ _
      | exact spec_KeyValid.mono _ _
      | exact LeO.none _
      | refine LeO.ite ?_ ?_
      | refine LeO.bind ?_ (fun _ => ?_)
set_option maxHeartbeats 8000000 in
set_option maxRecDepth 100000 in
theorem spec_PairDigest.calls (k : Nat) (a0_0 : ByteArray) (a0_1 : Int) (r : Int) (w : World) (h : spec_PairDigest.f k a0_0 a0_1 = some r) :
    Calls Try.prog 73 #[.agg #[.string a0_0, .int .i64 a0_1]] w fun e w' => e = .returned (.int .i64 r) ∧ Below w.heap.size w w' := by
  have hu29 := Try.underlying29
  have HB := Aside0.mk (Below.refl w.heap.size w)
  have H : ((spec_KeyValid.f k a0_0).bind fun t222 => (if t222 = true then ((spec_l1In.f a0_1 0 999).bind fun t223 => (if t223 = true then ((spec_KeyRank.f k a0_0).bind fun t224 => (some (Int.tmod (wrap64 ((wrap64 ((wrap64 (1009 * t224)) + (wrap64 (7 * a0_1)))) + 3)) 99991))) else (some (-1)))) else (some (-1)))) = some r := h
  clear h
  replace H := Option.bind_eq_some_iff.mp H
  obtain ⟨t222, A20, H⟩ := H
  replace H : (if t222 = true then ((spec_l1In.f a0_1 0 999).bind fun t223 => (if t223 = true then ((spec_KeyRank.f k a0_0).bind fun t224 => (some (Int.tmod (wrap64 ((wrap64 ((wrap64 (1009 * t224)) + (wrap64 (7 * a0_1)))) + 3)) 99991))) else (some (-1)))) else (some (-1))) = some r := H
  have A2 := Aside0.mk A20
  clear A20
  by_cases c3 : t222 = true
  · subst c3
    have H1 : ((spec_l1In.f a0_1 0 999).bind fun t223 => (if t223 = true then ((spec_KeyRank.f k a0_0).bind fun t224 => (some (Int.tmod (wrap64 ((wrap64 ((wrap64 (1009 * t224)) + (wrap64 (7 * a0_1)))) + 3)) 99991))) else (some (-1)))) = some r := by rw [if_pos rfl] at H; exact H
    clear H
    have H := H1
    clear H1
    replace H := Option.bind_eq_some_iff.mp H
    obtain ⟨t223, A40, H⟩ := H
    replace H : (if t223 = true then ((spec_KeyRank.f k a0_0).bind fun t224 => (some (Int.tmod (wrap64 ((wrap64 ((wrap64 (1009 * t224)) + (wrap64 (7 * a0_1)))) + 3)) 99991))) else (some (-1))) = some r := H
    have A4 := Aside0.mk A40
    clear A40
    by_cases c5 : t223 = true
    · subst c5
      have H1 : ((spec_KeyRank.f k a0_0).bind fun t224 => (some (Int.tmod (wrap64 ((wrap64 ((wrap64 (1009 * t224)) + (wrap64 (7 * a0_1)))) + 3)) 99991))) = some r := by rw [if_pos rfl] at H; exact H
      clear H
      have H := H1
      clear H1
      replace H := Option.bind_eq_some_iff.mp H
      obtain ⟨t224, A60, H⟩ := H
      replace H : (some (Int.tmod (wrap64 ((wrap64 ((wrap64 (1009 * t224)) + (wrap64 (7 * a0_1)))) + 3)) 99991)) = some r := H
      have A6 := Aside0.mk A60
      clear A60
      obtain rfl := Option.some.inj H
      go_enter Try.func73, Try.ntmps73
      go_wp2_with (first | ((with_reducible refine gate_dst (N := 1) rfl ?_); refine bxe (N := 1) (cs := #[.string a0_0, .int .i64 a0_1]) (t := 29) ?_; intro gb221 hg w7 hbox hb; have BK221 := Aside0.mk (hbox); have GW221 := an2 HB hg; have GE221 := an2 HB hg; replace HB := an0 HB hb; clear hb hbox hg; obtain ⟨hcz8_0, hcz8_1, hfz8_0, hfz8_1⟩ := cl2 BK221) | (go_at_call 113; (with_reducible refine (spec_KeyValid.calls k a0_0 true _ A2.out).mono ?_); rintro e w' ⟨rfl, ⟨nd, rfl⟩⟩; (try first | exact ⟨rfl, _, World.drewN_drewN _ _ _⟩ | exact ⟨rfl, _, Eq.trans (World.drewN_drewN _ _ _) (congrArg (World.drewN _) (Nat.add_assoc _ _ _))⟩)) | (go_at_call 112; (with_reducible refine (spec_l1In.calls a0_1 0 999 true _ A4.out).mono ?_); rintro e w' ⟨rfl, ⟨nd, rfl⟩⟩; (try first | exact ⟨rfl, _, World.drewN_drewN _ _ _⟩ | exact ⟨rfl, _, Eq.trans (World.drewN_drewN _ _ _) (congrArg (World.drewN _) (Nat.add_assoc _ _ _))⟩)) | (go_at_call 126; (with_reducible refine (spec_KeyRank.calls k a0_0 t224 _ A6.out).mono ?_); rintro e w' ⟨rfl, ⟨nd, rfl⟩⟩; (try first | exact ⟨rfl, _, World.drewN_drewN _ _ _⟩ | exact ⟨rfl, _, Eq.trans (World.drewN_drewN _ _ _) (congrArg (World.drewN _) (Nat.add_assoc _ _ _))⟩)))
      repeat (go_quiet (first | ((with_reducible refine gate_dst (N := 1) rfl ?_); refine bxe (N := 1) (cs := #[.string a0_0, .int .i64 a0_1]) (t := 29) ?_; intro gb221 hg w7 hbox hb; have BK221 := Aside0.mk (hbox); have GW221 := an2 HB hg; have GE221 := an2 HB hg; replace HB := an0 HB hb; clear hb hbox hg; obtain ⟨hcz8_0, hcz8_1, hfz8_0, hfz8_1⟩ := cl2 BK221) | (go_at_call 113; (with_reducible refine (spec_KeyValid.calls k a0_0 true _ A2.out).mono ?_); rintro e w' ⟨rfl, ⟨nd, rfl⟩⟩; (try first | exact ⟨rfl, _, World.drewN_drewN _ _ _⟩ | exact ⟨rfl, _, Eq.trans (World.drewN_drewN _ _ _) (congrArg (World.drewN _) (Nat.add_assoc _ _ _))⟩)) | (go_at_call 112; (with_reducible refine (spec_l1In.calls a0_1 0 999 true _ A4.out).mono ?_); rintro e w' ⟨rfl, ⟨nd, rfl⟩⟩; (try first | exact ⟨rfl, _, World.drewN_drewN _ _ _⟩ | exact ⟨rfl, _, Eq.trans (World.drewN_drewN _ _ _) (congrArg (World.drewN _) (Nat.add_assoc _ _ _))⟩)) | (go_at_call 126; (with_reducible refine (spec_KeyRank.calls k a0_0 t224 _ A6.out).mono ?_); rintro e w' ⟨rfl, ⟨nd, rfl⟩⟩; (try first | exact ⟨rfl, _, World.drewN_drewN _ _ _⟩ | exact ⟨rfl, _, Eq.trans (World.drewN_drewN _ _ _) (congrArg (World.drewN _) (Nat.add_assoc _ _ _))⟩))); try go_wp2_with (first | ((with_reducible refine gate_dst (N := 1) rfl ?_); refine bxe (N := 1) (cs := #[.string a0_0, .int .i64 a0_1]) (t := 29) ?_; intro gb221 hg w7 hbox hb; have BK221 := Aside0.mk (hbox); have GW221 := an2 HB hg; have GE221 := an2 HB hg; replace HB := an0 HB hb; clear hb hbox hg; obtain ⟨hcz8_0, hcz8_1, hfz8_0, hfz8_1⟩ := cl2 BK221) | (go_at_call 113; (with_reducible refine (spec_KeyValid.calls k a0_0 true _ A2.out).mono ?_); rintro e w' ⟨rfl, ⟨nd, rfl⟩⟩; (try first | exact ⟨rfl, _, World.drewN_drewN _ _ _⟩ | exact ⟨rfl, _, Eq.trans (World.drewN_drewN _ _ _) (congrArg (World.drewN _) (Nat.add_assoc _ _ _))⟩)) | (go_at_call 112; (with_reducible refine (spec_l1In.calls a0_1 0 999 true _ A4.out).mono ?_); rintro e w' ⟨rfl, ⟨nd, rfl⟩⟩; (try first | exact ⟨rfl, _, World.drewN_drewN _ _ _⟩ | exact ⟨rfl, _, Eq.trans (World.drewN_drewN _ _ _) (congrArg (World.drewN _) (Nat.add_assoc _ _ _))⟩)) | (go_at_call 126; (with_reducible refine (spec_KeyRank.calls k a0_0 t224 _ A6.out).mono ?_); rintro e w' ⟨rfl, ⟨nd, rfl⟩⟩; (try first | exact ⟨rfl, _, World.drewN_drewN _ _ _⟩ | exact ⟨rfl, _, Eq.trans (World.drewN_drewN _ _ _) (congrArg (World.drewN _) (Nat.add_assoc _ _ _))⟩))))
      go_ret
      exact ⟨fe, bp HB.out⟩
    · replace c5 := Bool.eq_false_iff.mpr c5
      subst c5
      have H1 : (some (-1)) = some r := by rw [if_neg (show ¬ (false = true) by decide)] at H; exact H
      clear H
      have H := H1
      clear H1
      obtain rfl := Option.some.inj H
      go_enter Try.func73, Try.ntmps73
      go_wp2_with (first | ((with_reducible refine gate_dst (N := 1) rfl ?_); refine bxe (N := 1) (cs := #[.string a0_0, .int .i64 a0_1]) (t := 29) ?_; intro gb221 hg w9 hbox hb; have BK221 := Aside0.mk (hbox); have GW221 := an2 HB hg; have GE221 := an2 HB hg; replace HB := an0 HB hb; clear hb hbox hg; obtain ⟨hcz10_0, hcz10_1, hfz10_0, hfz10_1⟩ := cl2 BK221) | (go_at_call 113; (with_reducible refine (spec_KeyValid.calls k a0_0 true _ A2.out).mono ?_); rintro e w' ⟨rfl, ⟨nd, rfl⟩⟩; (try first | exact ⟨rfl, _, World.drewN_drewN _ _ _⟩ | exact ⟨rfl, _, Eq.trans (World.drewN_drewN _ _ _) (congrArg (World.drewN _) (Nat.add_assoc _ _ _))⟩)) | (go_at_call 112; (with_reducible refine (spec_l1In.calls a0_1 0 999 false _ A4.out).mono ?_); rintro e w' ⟨rfl, ⟨nd, rfl⟩⟩; (try first | exact ⟨rfl, _, World.drewN_drewN _ _ _⟩ | exact ⟨rfl, _, Eq.trans (World.drewN_drewN _ _ _) (congrArg (World.drewN _) (Nat.add_assoc _ _ _))⟩)))
      repeat (go_quiet (first | ((with_reducible refine gate_dst (N := 1) rfl ?_); refine bxe (N := 1) (cs := #[.string a0_0, .int .i64 a0_1]) (t := 29) ?_; intro gb221 hg w9 hbox hb; have BK221 := Aside0.mk (hbox); have GW221 := an2 HB hg; have GE221 := an2 HB hg; replace HB := an0 HB hb; clear hb hbox hg; obtain ⟨hcz10_0, hcz10_1, hfz10_0, hfz10_1⟩ := cl2 BK221) | (go_at_call 113; (with_reducible refine (spec_KeyValid.calls k a0_0 true _ A2.out).mono ?_); rintro e w' ⟨rfl, ⟨nd, rfl⟩⟩; (try first | exact ⟨rfl, _, World.drewN_drewN _ _ _⟩ | exact ⟨rfl, _, Eq.trans (World.drewN_drewN _ _ _) (congrArg (World.drewN _) (Nat.add_assoc _ _ _))⟩)) | (go_at_call 112; (with_reducible refine (spec_l1In.calls a0_1 0 999 false _ A4.out).mono ?_); rintro e w' ⟨rfl, ⟨nd, rfl⟩⟩; (try first | exact ⟨rfl, _, World.drewN_drewN _ _ _⟩ | exact ⟨rfl, _, Eq.trans (World.drewN_drewN _ _ _) (congrArg (World.drewN _) (Nat.add_assoc _ _ _))⟩))); try go_wp2_with (first | ((with_reducible refine gate_dst (N := 1) rfl ?_); refine bxe (N := 1) (cs := #[.string a0_0, .int .i64 a0_1]) (t := 29) ?_; intro gb221 hg w9 hbox hb; have BK221 := Aside0.mk (hbox); have GW221 := an2 HB hg; have GE221 := an2 HB hg; replace HB := an0 HB hb; clear hb hbox hg; obtain ⟨hcz10_0, hcz10_1, hfz10_0, hfz10_1⟩ := cl2 BK221) | (go_at_call 113; (with_reducible refine (spec_KeyValid.calls k a0_0 true _ A2.out).mono ?_); rintro e w' ⟨rfl, ⟨nd, rfl⟩⟩; (try first | exact ⟨rfl, _, World.drewN_drewN _ _ _⟩ | exact ⟨rfl, _, Eq.trans (World.drewN_drewN _ _ _) (congrArg (World.drewN _) (Nat.add_assoc _ _ _))⟩)) | (go_at_call 112; (with_reducible refine (spec_l1In.calls a0_1 0 999 false _ A4.out).mono ?_); rintro e w' ⟨rfl, ⟨nd, rfl⟩⟩; (try first | exact ⟨rfl, _, World.drewN_drewN _ _ _⟩ | exact ⟨rfl, _, Eq.trans (World.drewN_drewN _ _ _) (congrArg (World.drewN _) (Nat.add_assoc _ _ _))⟩))))
      go_ret
      exact ⟨fe, bp HB.out⟩
  · replace c3 := Bool.eq_false_iff.mpr c3
    subst c3
    have H1 : (some (-1)) = some r := by rw [if_neg (show ¬ (false = true) by decide)] at H; exact H
    clear H
    have H := H1
    clear H1
    obtain rfl := Option.some.inj H
    go_enter Try.func73, Try.ntmps73
    go_wp2_with (first | ((with_reducible refine gate_dst (N := 1) rfl ?_); refine bxe (N := 1) (cs := #[.string a0_0, .int .i64 a0_1]) (t := 29) ?_; intro gb221 hg w11 hbox hb; have BK221 := Aside0.mk (hbox); have GW221 := an2 HB hg; have GE221 := an2 HB hg; replace HB := an0 HB hb; clear hb hbox hg; obtain ⟨hcz12_0, hcz12_1, hfz12_0, hfz12_1⟩ := cl2 BK221) | (go_at_call 113; (with_reducible refine (spec_KeyValid.calls k a0_0 false _ A2.out).mono ?_); rintro e w' ⟨rfl, ⟨nd, rfl⟩⟩; (try first | exact ⟨rfl, _, World.drewN_drewN _ _ _⟩ | exact ⟨rfl, _, Eq.trans (World.drewN_drewN _ _ _) (congrArg (World.drewN _) (Nat.add_assoc _ _ _))⟩)))
    repeat (go_quiet (first | ((with_reducible refine gate_dst (N := 1) rfl ?_); refine bxe (N := 1) (cs := #[.string a0_0, .int .i64 a0_1]) (t := 29) ?_; intro gb221 hg w11 hbox hb; have BK221 := Aside0.mk (hbox); have GW221 := an2 HB hg; have GE221 := an2 HB hg; replace HB := an0 HB hb; clear hb hbox hg; obtain ⟨hcz12_0, hcz12_1, hfz12_0, hfz12_1⟩ := cl2 BK221) | (go_at_call 113; (with_reducible refine (spec_KeyValid.calls k a0_0 false _ A2.out).mono ?_); rintro e w' ⟨rfl, ⟨nd, rfl⟩⟩; (try first | exact ⟨rfl, _, World.drewN_drewN _ _ _⟩ | exact ⟨rfl, _, Eq.trans (World.drewN_drewN _ _ _) (congrArg (World.drewN _) (Nat.add_assoc _ _ _))⟩))); try go_wp2_with (first | ((with_reducible refine gate_dst (N := 1) rfl ?_); refine bxe (N := 1) (cs := #[.string a0_0, .int .i64 a0_1]) (t := 29) ?_; intro gb221 hg w11 hbox hb; have BK221 := Aside0.mk (hbox); have GW221 := an2 HB hg; have GE221 := an2 HB hg; replace HB := an0 HB hb; clear hb hbox hg; obtain ⟨hcz12_0, hcz12_1, hfz12_0, hfz12_1⟩ := cl2 BK221) | (go_at_call 113; (with_reducible refine (spec_KeyValid.calls k a0_0 false _ A2.out).mono ?_); rintro e w' ⟨rfl, ⟨nd, rfl⟩⟩; (try first | exact ⟨rfl, _, World.drewN_drewN _ _ _⟩ | exact ⟨rfl, _, Eq.trans (World.drewN_drewN _ _ _) (congrArg (World.drewN _) (Nat.add_assoc _ _ _))⟩))))
    go_ret
    exact ⟨fe, bp HB.out⟩

/-! ### spec_PairsDigest: function 16 -/
def spec_PairsDigest.l0 : Nat → List (S29) → Int → Int → Option (Int)
  | 0, _, _, _ => none
  | k + 1, x0, x3, x4 => if x4 < (x0.length : Int) then (if 0 ≤ x4 then ((spec_PairDigest.f k ((rd_T29 x0 x4).f0) ((rd_T29 x0 x4).f1)).bind fun t227 => (spec_PairsDigest.l0 k x0 (Int.tmod (wrap64 (x3 + t227)) 99991) (wrap64 (x4 + 1)))) else (none)) else (some x3)
def spec_PairsDigest.f (k : Nat) (l0 : List (S29)) : Option (Int) := (spec_PairsValid.f k l0).bind fun t225 => (if t225 = true then (spec_PairsDigest.l0 k l0 0 0) else (some (-1)))
theorem spec_PairsDigest.mono_l : ∀ k, (∀ y0 y1 y2, LeO (spec_PairsDigest.l0 k y0 y1 y2) (spec_PairsDigest.l0 (k + 1) y0 y1 y2))
  | 0 => fun _ _ _ r h => by simp [spec_PairsDigest.l0] at h
  | k + 1 => by
    have ih0 := spec_PairsDigest.mono_l k
    · intro y0 y1 y2
      unfold spec_PairsDigest.l0
      repeat' first
      | (with_reducible exact ih0 _ _ _)
      | (with_reducible exact spec_PairDigest.mono _ _ _)
      | (with_reducible exact spec_PairsValid.mono _ _)
      | (with_reducible exact LeO.refl _)
      | (with_reducible exact LeO.none _)
      | (with_reducible refine LeO.ite ?_ ?_)
      | (with_reducible refine LeO.bind ?_ (fun _ => ?_))
      | exact ih0 _ _ _
      | exact spec_PairDigest.mono _ _ _
      | exact spec_PairsValid.mono _ _
      | exact LeO.none _
      | refine LeO.ite ?_ ?_
      | refine LeO.bind ?_ (fun _ => ?_)
theorem spec_PairsDigest.mono : ∀ a0 k, LeO (spec_PairsDigest.f k a0) (spec_PairsDigest.f (k + 1) a0) := by
  intro a0 k
  have ih0 := spec_PairsDigest.mono_l k
  unfold spec_PairsDigest.f
  repeat' first
      | (with_reducible exact ih0 _ _ _)
      | (with_reducible exact spec_PairDigest.mono _ _ _)
      | (with_reducible exact spec_PairsValid.mono _ _)
      | (with_reducible exact LeO.refl _)
      | (with_reducible exact LeO.none _)
      | (with_reducible refine LeO.ite ?_ ?_)
      | (with_reducible refine LeO.bind ?_ (fun _ => ?_))
      | exact ih0 _ _ _
      | exact spec_PairDigest.mono _ _ _
      | exact spec_PairsValid.mono _ _
      | exact LeO.none _
      | refine LeO.ite ?_ ?_
      | refine LeO.bind ?_ (fun _ => ?_)
set_option maxHeartbeats 8000000 in
set_option maxRecDepth 100000 in
theorem spec_PairsDigest.calls (k : Nat) (A0 : Option Addr) (c0 : Nat) (l0 : List (S29)) (r : Int) (w : World) (hr0 : Kd.C k29 w A0 l0.length l0) (hc0 : l0.length ≤ c0) (h : spec_PairsDigest.f k l0 = some r) :
    Calls Try.prog 16 #[.slice A0 l0.length c0] w fun e w' => e = .returned (.int .i64 r) ∧ Below w.heap.size w w' := by
  have hu29 := Try.underlying29
  have HR0 := Aside0.mk hr0
  have HC0 := Aside0.mk hc0
  clear hr0 hc0
  have HB := Aside0.mk (Below.refl w.heap.size w)
  have H : ((spec_PairsValid.f k l0).bind fun t225 => (if t225 = true then (spec_PairsDigest.l0 k l0 0 0) else (some (-1)))) = some r := h
  clear h
  replace H := Option.bind_eq_some_iff.mp H
  obtain ⟨t225, A20, H⟩ := H
  replace H : (if t225 = true then (spec_PairsDigest.l0 k l0 0 0) else (some (-1))) = some r := H
  have A2 := Aside0.mk A20
  clear A20
  by_cases c3 : t225 = true
  · subst c3
    have H1 : (spec_PairsDigest.l0 k l0 0 0) = some r := by rw [if_pos rfl] at H; exact H
    clear H
    have H := H1
    clear H1
    have H' := Aside0.mk H
    clear H
    go_enter Try.func16, Try.ntmps16
    go_wp2_with (first | ((with_reducible refine gate_callee (f := 72) rfl ?_); refine gsl (some 6) rfl Try.func72 #[.slice A0 l0.length c0] rfl ?_; (with_reducible refine (spec_PairsValid.calls k _ _ l0 true _ ?side1 ?side2 A2.out).mono ?_); (case side1 => exact cc HR0.out); (case side2 => exact HC0.out); rintro e w4 ⟨rfl, hb⟩; refine ⟨_, rfl, ?_⟩; replace HB := an0 HB hb; (try clear hb); (try clear hb2); (try clear hk); (try clear hi)))
    go_loopg [3, 4] k (fun kq v3 v4 w' => ∃ (x3_1 : Int) (x4_1 : Int), v3 = .int .i64 x3_1 ∧ v4 = .int .i64 x4_1 ∧ Aside0 (spec_PairsDigest.l0 kq l0 x3_1 x4_1 = some r) ∧ Aside0 (kq ≤ k) ∧ Aside0 (Below w.heap.size w w'))
    case atStart => exact ⟨(0), (0), (by first | rfl | (simp; done) | (simp [*]; done) | (simp [bne_nil_, beq_nil_]; done)), (by first | rfl | (simp; done) | (simp [*]; done) | (simp [bne_nil_, beq_nil_]; done)), H', ⟨Nat.le_refl _⟩, ⟨bp HB.out⟩⟩
    case round =>
      clear H'
      try clear c1
      try clear p2
      try clear c3
      obtain ⟨x3_1, x4_1, rfl, rfl, HA, HK1, HB⟩ := hrel
      cases gk with
      | zero => exact absurd HA.out (by simp [spec_PairsDigest.l0])
      | succ k1 =>
        have H := HA.out
        clear HA
        simp only [spec_PairsDigest.l0] at H
        by_cases c5 : x4_1 < (l0.length : Int)
        · rw [if_pos c5] at H
          have c5b0 : decide (x4_1 < (l0.length : Int)) = true := decide_eq_true c5
          clear c5
          by_cases c6 : 0 ≤ x4_1
          · rw [if_pos c6] at H
            have c6b0 : decide (0 ≤ x4_1) = true := decide_eq_true c6
            clear c6
            replace H := Option.bind_eq_some_iff.mp H
            obtain ⟨t227, A70, H⟩ := H
            replace H : (spec_PairsDigest.l0 k1 l0 (Int.tmod (wrap64 (x3_1 + t227)) 99991) (wrap64 (x4_1 + 1))) = some r := H
            have A7 := Aside0.mk A70
            clear A70
            have H' := Aside0.mk H
            clear H
            have p226 : 0 ≤ (x4_1 : Int) := of_decide_eq_true (by first | (with_reducible assumption) | assumption)
            have q226 : x4_1 < (l0.length : Int) := of_decide_eq_true (by first | (with_reducible assumption) | assumption)
            obtain ⟨ad226, e226, hx226_0, hx226_1⟩ := at_T29 HR0.out x4_1 p226 q226
            cases e226
            replace hx226_0 := hcx HB hx226_0
            replace hx226_1 := hcx HB hx226_1
            replace p226 := eq_true p226
            replace q226 := eq_true q226
            go_wp2_with (first | ((with_reducible refine gate_callee (f := 73) rfl ?_); refine gsl (some 19) rfl Try.func73 #[.agg #[.string ((rd_T29 l0 x4_1).f0), .int .i64 ((rd_T29 l0 x4_1).f1)]] rfl ?_; (with_reducible refine (spec_PairDigest.calls k1 ((rd_T29 l0 x4_1).f0) ((rd_T29 l0 x4_1).f1) t227 _ A7.out).mono ?_); rintro e w8 ⟨rfl, hb⟩; refine ⟨_, rfl, ?_⟩; replace HB := an0 HB hb; (try clear hb); (try clear hb2); (try clear hk); (try clear hi)))
            go_roundg k1
            case measure => have := HK1.out; omega
            case rel => exact ⟨(Int.tmod (wrap64 (x3_1 + t227)) 99991), (wrap64 (x4_1 + 1)), (by first | rfl | (simp; done) | (simp [*]; done) | (simp [bne_nil_, beq_nil_]; done)), (by first | rfl | (simp; done) | (simp [*]; done) | (simp [bne_nil_, beq_nil_]; done)), H', ⟨by have := HK1.out; omega⟩, ⟨bp HB.out⟩⟩
          · rw [if_neg c6] at H
            exact absurd H (by simp)
        · rw [if_neg c5] at H
          have c5b0 : decide (x4_1 < (l0.length : Int)) = false := decide_eq_false c5
          clear c5
          obtain rfl := Option.some.inj H
          go_wp2
          go_ret
          exact ⟨fe, bp HB.out⟩
  · replace c3 := Bool.eq_false_iff.mpr c3
    subst c3
    have H1 : (some (-1)) = some r := by rw [if_neg (show ¬ (false = true) by decide)] at H; exact H
    clear H
    have H := H1
    clear H1
    obtain rfl := Option.some.inj H
    go_enter Try.func16, Try.ntmps16
    go_wp2_with (first | ((with_reducible refine gate_callee (f := 72) rfl ?_); refine gsl (some 6) rfl Try.func72 #[.slice A0 l0.length c0] rfl ?_; (with_reducible refine (spec_PairsValid.calls k _ _ l0 false _ ?side1 ?side2 A2.out).mono ?_); (case side1 => exact cc HR0.out); (case side2 => exact HC0.out); rintro e w9 ⟨rfl, hb⟩; refine ⟨_, rfl, ?_⟩; replace HB := an0 HB hb; (try clear hb); (try clear hb2); (try clear hk); (try clear hi)))
    go_ret
    exact ⟨fe, bp HB.out⟩

/-! ### spec_IntervalValid: function 140 -/
def spec_IntervalValid.f (k : Nat) (a0_0 : ByteArray) (a0_1 : ByteArray) : Option (Bool) := if a0_0.toList = ([] : List UInt8) then (if a0_1.toList = ([] : List UInt8) then (some true) else ((spec_KeyValid.f k a0_1).bind fun t229 => (if t229 = true then (if (Op.bytesLess a0_0.toList a0_1.toList) = true then (some (a0_1.toList != ([97] : List UInt8))) else (some false)) else (some false)))) else ((spec_KeyValid.f k a0_0).bind fun t230 => (if t230 = true then (if a0_1.toList = ([] : List UInt8) then (some true) else ((spec_KeyValid.f k a0_1).bind fun t231 => (if t231 = true then (if (Op.bytesLess a0_0.toList a0_1.toList) = true then (some true) else (some false)) else (some false)))) else (some false)))
theorem spec_IntervalValid.mono : ∀ a0 a1 k, LeO (spec_IntervalValid.f k a0 a1) (spec_IntervalValid.f (k + 1) a0 a1) := by
  intro a0 a1 k
  unfold spec_IntervalValid.f
  repeat' first
      | (with_reducible exact spec_KeyValid.mono _ _)
      | (with_reducible exact LeO.refl _)
      | (with_reducible exact LeO.none _)
      | (with_reducible refine LeO.ite ?_ ?_)
      | (with_reducible refine LeO.bind ?_ (fun _ => ?_))
      | exact spec_KeyValid.mono _ _
      | exact LeO.none _
      | refine LeO.ite ?_ ?_
      | refine LeO.bind ?_ (fun _ => ?_)
set_option maxHeartbeats 8000000 in
set_option maxRecDepth 100000 in
theorem spec_IntervalValid.calls (k : Nat) (a0_0 : ByteArray) (a0_1 : ByteArray) (r : Bool) (w : World) (h : spec_IntervalValid.f k a0_0 a0_1 = some r) :
    Calls Try.prog 140 #[.agg #[.string a0_0, .string a0_1]] w fun e w' => e = .returned (.bool r) ∧ Below w.heap.size w w' := by
  have hu83 := Try.underlying83
  have HB := Aside0.mk (Below.refl w.heap.size w)
  have H : (if a0_0.toList = ([] : List UInt8) then (if a0_1.toList = ([] : List UInt8) then (some true) else ((spec_KeyValid.f k a0_1).bind fun t229 => (if t229 = true then (if (Op.bytesLess a0_0.toList a0_1.toList) = true then (some (a0_1.toList != ([97] : List UInt8))) else (some false)) else (some false)))) else ((spec_KeyValid.f k a0_0).bind fun t230 => (if t230 = true then (if a0_1.toList = ([] : List UInt8) then (some true) else ((spec_KeyValid.f k a0_1).bind fun t231 => (if t231 = true then (if (Op.bytesLess a0_0.toList a0_1.toList) = true then (some true) else (some false)) else (some false)))) else (some false)))) = some r := h
  clear h
  by_cases c2 : a0_0.toList = ([] : List UInt8)
  · rw [if_pos c2] at H
    have c2b0 : (a0_0.toList == ([] : List UInt8)) = true := beq_iff_eq.mpr c2
    have c2b1 : (a0_0.toList != ([] : List UInt8)) = false := bne_eq_false_iff_eq.mpr c2
    clear c2
    by_cases c3 : a0_1.toList = ([] : List UInt8)
    · rw [if_pos c3] at H
      have c3b0 : (a0_1.toList == ([] : List UInt8)) = true := beq_iff_eq.mpr c3
      have c3b1 : (a0_1.toList != ([] : List UInt8)) = false := bne_eq_false_iff_eq.mpr c3
      clear c3
      obtain rfl := Option.some.inj H
      go_enter Try.func140, Try.ntmps140
      go_wp2_with (first | ((with_reducible refine gate_dst (N := 1) rfl ?_); refine bxe (N := 1) (cs := #[.string a0_0, .string a0_1]) (t := 83) ?_; intro gb228 hg w4 hbox hb; have BK228 := Aside0.mk (hbox); have GW228 := an2 HB hg; have GE228 := an2 HB hg; replace HB := an0 HB hb; clear hb hbox hg; obtain ⟨hcz5_0, hcz5_1, hfz5_0, hfz5_1⟩ := cl2 BK228))
      go_ret
      exact ⟨fe, bp HB.out⟩
    · rw [if_neg c3] at H
      have c3b0 : (a0_1.toList == ([] : List UInt8)) = false := beq_eq_false_iff_ne.mpr c3
      have c3b1 : (a0_1.toList != ([] : List UInt8)) = true := bne_iff_ne.mpr c3
      replace H := Option.bind_eq_some_iff.mp H
      obtain ⟨t229, A60, H⟩ := H
      replace H : (if t229 = true then (if (Op.bytesLess a0_0.toList a0_1.toList) = true then (some (a0_1.toList != ([97] : List UInt8))) else (some false)) else (some false)) = some r := H
      have A6 := Aside0.mk A60
      clear A60
      by_cases c7 : t229 = true
      · subst c7
        have H1 : (if (Op.bytesLess a0_0.toList a0_1.toList) = true then (some (a0_1.toList != ([97] : List UInt8))) else (some false)) = some r := by rw [if_pos rfl] at H; exact H
        clear H
        have H := H1
        clear H1
        by_cases c8 : (Op.bytesLess a0_0.toList a0_1.toList) = true
        · rw [if_pos c8] at H
          have c8b0 : (Op.bytesLess a0_0.toList a0_1.toList) = true := c8
          clear c8
          obtain rfl := Option.some.inj H
          go_enter Try.func140, Try.ntmps140
          go_wp2_with (first | ((with_reducible refine gate_dst (N := 1) rfl ?_); refine bxe (N := 1) (cs := #[.string a0_0, .string a0_1]) (t := 83) ?_; intro gb228 hg w9 hbox hb; have BK228 := Aside0.mk (hbox); have GW228 := an2 HB hg; have GE228 := an2 HB hg; replace HB := an0 HB hb; clear hb hbox hg; obtain ⟨hcz10_0, hcz10_1, hfz10_0, hfz10_1⟩ := cl2 BK228) | (go_at_call 113; (with_reducible refine (spec_KeyValid.calls k a0_1 true _ A6.out).mono ?_); rintro e w' ⟨rfl, ⟨nd, rfl⟩⟩))
          go_ret
          exact ⟨fe, bp HB.out⟩
        · rw [if_neg c8] at H
          have c8b0 : (Op.bytesLess a0_0.toList a0_1.toList) = false := by simpa using c8
          clear c8
          obtain rfl := Option.some.inj H
          go_enter Try.func140, Try.ntmps140
          go_wp2_with (first | ((with_reducible refine gate_dst (N := 1) rfl ?_); refine bxe (N := 1) (cs := #[.string a0_0, .string a0_1]) (t := 83) ?_; intro gb228 hg w11 hbox hb; have BK228 := Aside0.mk (hbox); have GW228 := an2 HB hg; have GE228 := an2 HB hg; replace HB := an0 HB hb; clear hb hbox hg; obtain ⟨hcz12_0, hcz12_1, hfz12_0, hfz12_1⟩ := cl2 BK228) | (go_at_call 113; (with_reducible refine (spec_KeyValid.calls k a0_1 true _ A6.out).mono ?_); rintro e w' ⟨rfl, ⟨nd, rfl⟩⟩))
          go_ret
          exact ⟨fe, bp HB.out⟩
      · replace c7 := Bool.eq_false_iff.mpr c7
        subst c7
        have H1 : (some false) = some r := by rw [if_neg (show ¬ (false = true) by decide)] at H; exact H
        clear H
        have H := H1
        clear H1
        obtain rfl := Option.some.inj H
        go_enter Try.func140, Try.ntmps140
        go_wp2_with (first | ((with_reducible refine gate_dst (N := 1) rfl ?_); refine bxe (N := 1) (cs := #[.string a0_0, .string a0_1]) (t := 83) ?_; intro gb228 hg w13 hbox hb; have BK228 := Aside0.mk (hbox); have GW228 := an2 HB hg; have GE228 := an2 HB hg; replace HB := an0 HB hb; clear hb hbox hg; obtain ⟨hcz14_0, hcz14_1, hfz14_0, hfz14_1⟩ := cl2 BK228) | (go_at_call 113; (with_reducible refine (spec_KeyValid.calls k a0_1 false _ A6.out).mono ?_); rintro e w' ⟨rfl, ⟨nd, rfl⟩⟩))
        go_ret
        exact ⟨fe, bp HB.out⟩
  · rw [if_neg c2] at H
    have c2b0 : (a0_0.toList == ([] : List UInt8)) = false := beq_eq_false_iff_ne.mpr c2
    have c2b1 : (a0_0.toList != ([] : List UInt8)) = true := bne_iff_ne.mpr c2
    replace H := Option.bind_eq_some_iff.mp H
    obtain ⟨t230, A150, H⟩ := H
    replace H : (if t230 = true then (if a0_1.toList = ([] : List UInt8) then (some true) else ((spec_KeyValid.f k a0_1).bind fun t231 => (if t231 = true then (if (Op.bytesLess a0_0.toList a0_1.toList) = true then (some true) else (some false)) else (some false)))) else (some false)) = some r := H
    have A15 := Aside0.mk A150
    clear A150
    by_cases c16 : t230 = true
    · subst c16
      have H1 : (if a0_1.toList = ([] : List UInt8) then (some true) else ((spec_KeyValid.f k a0_1).bind fun t231 => (if t231 = true then (if (Op.bytesLess a0_0.toList a0_1.toList) = true then (some true) else (some false)) else (some false)))) = some r := by rw [if_pos rfl] at H; exact H
      clear H
      have H := H1
      clear H1
      by_cases c17 : a0_1.toList = ([] : List UInt8)
      · rw [if_pos c17] at H
        have c17b0 : (a0_1.toList == ([] : List UInt8)) = true := beq_iff_eq.mpr c17
        have c17b1 : (a0_1.toList != ([] : List UInt8)) = false := bne_eq_false_iff_eq.mpr c17
        clear c17
        obtain rfl := Option.some.inj H
        go_enter Try.func140, Try.ntmps140
        go_wp2_with (first | ((with_reducible refine gate_dst (N := 1) rfl ?_); refine bxe (N := 1) (cs := #[.string a0_0, .string a0_1]) (t := 83) ?_; intro gb228 hg w18 hbox hb; have BK228 := Aside0.mk (hbox); have GW228 := an2 HB hg; have GE228 := an2 HB hg; replace HB := an0 HB hb; clear hb hbox hg; obtain ⟨hcz19_0, hcz19_1, hfz19_0, hfz19_1⟩ := cl2 BK228) | (go_at_call 113; (with_reducible refine (spec_KeyValid.calls k a0_0 true _ A15.out).mono ?_); rintro e w' ⟨rfl, ⟨nd, rfl⟩⟩))
        go_ret
        exact ⟨fe, bp HB.out⟩
      · rw [if_neg c17] at H
        have c17b0 : (a0_1.toList == ([] : List UInt8)) = false := beq_eq_false_iff_ne.mpr c17
        have c17b1 : (a0_1.toList != ([] : List UInt8)) = true := bne_iff_ne.mpr c17
        replace H := Option.bind_eq_some_iff.mp H
        obtain ⟨t231, A200, H⟩ := H
        replace H : (if t231 = true then (if (Op.bytesLess a0_0.toList a0_1.toList) = true then (some true) else (some false)) else (some false)) = some r := H
        have A20 := Aside0.mk A200
        clear A200
        by_cases c21 : t231 = true
        · subst c21
          have H1 : (if (Op.bytesLess a0_0.toList a0_1.toList) = true then (some true) else (some false)) = some r := by rw [if_pos rfl] at H; exact H
          clear H
          have H := H1
          clear H1
          by_cases c22 : (Op.bytesLess a0_0.toList a0_1.toList) = true
          · rw [if_pos c22] at H
            have c22b0 : (Op.bytesLess a0_0.toList a0_1.toList) = true := c22
            clear c22
            obtain rfl := Option.some.inj H
            go_enter Try.func140, Try.ntmps140
            go_wp2_with (first | ((with_reducible refine gate_dst (N := 1) rfl ?_); refine bxe (N := 1) (cs := #[.string a0_0, .string a0_1]) (t := 83) ?_; intro gb228 hg w23 hbox hb; have BK228 := Aside0.mk (hbox); have GW228 := an2 HB hg; have GE228 := an2 HB hg; replace HB := an0 HB hb; clear hb hbox hg; obtain ⟨hcz24_0, hcz24_1, hfz24_0, hfz24_1⟩ := cl2 BK228) | (go_at_call 113; (with_reducible refine (spec_KeyValid.calls k a0_0 true _ A15.out).mono ?_); rintro e w' ⟨rfl, ⟨nd, rfl⟩⟩) | (go_at_call 113; (with_reducible refine (spec_KeyValid.calls k a0_1 true _ A20.out).mono ?_); rintro e w' ⟨rfl, ⟨nd, rfl⟩⟩))
            go_ret
            exact ⟨fe, bp HB.out⟩
          · rw [if_neg c22] at H
            have c22b0 : (Op.bytesLess a0_0.toList a0_1.toList) = false := by simpa using c22
            clear c22
            obtain rfl := Option.some.inj H
            go_enter Try.func140, Try.ntmps140
            go_wp2_with (first | ((with_reducible refine gate_dst (N := 1) rfl ?_); refine bxe (N := 1) (cs := #[.string a0_0, .string a0_1]) (t := 83) ?_; intro gb228 hg w25 hbox hb; have BK228 := Aside0.mk (hbox); have GW228 := an2 HB hg; have GE228 := an2 HB hg; replace HB := an0 HB hb; clear hb hbox hg; obtain ⟨hcz26_0, hcz26_1, hfz26_0, hfz26_1⟩ := cl2 BK228) | (go_at_call 113; (with_reducible refine (spec_KeyValid.calls k a0_0 true _ A15.out).mono ?_); rintro e w' ⟨rfl, ⟨nd, rfl⟩⟩) | (go_at_call 113; (with_reducible refine (spec_KeyValid.calls k a0_1 true _ A20.out).mono ?_); rintro e w' ⟨rfl, ⟨nd, rfl⟩⟩))
            go_ret
            exact ⟨fe, bp HB.out⟩
        · replace c21 := Bool.eq_false_iff.mpr c21
          subst c21
          have H1 : (some false) = some r := by rw [if_neg (show ¬ (false = true) by decide)] at H; exact H
          clear H
          have H := H1
          clear H1
          obtain rfl := Option.some.inj H
          go_enter Try.func140, Try.ntmps140
          go_wp2_with (first | ((with_reducible refine gate_dst (N := 1) rfl ?_); refine bxe (N := 1) (cs := #[.string a0_0, .string a0_1]) (t := 83) ?_; intro gb228 hg w27 hbox hb; have BK228 := Aside0.mk (hbox); have GW228 := an2 HB hg; have GE228 := an2 HB hg; replace HB := an0 HB hb; clear hb hbox hg; obtain ⟨hcz28_0, hcz28_1, hfz28_0, hfz28_1⟩ := cl2 BK228) | (go_at_call 113; (with_reducible refine (spec_KeyValid.calls k a0_0 true _ A15.out).mono ?_); rintro e w' ⟨rfl, ⟨nd, rfl⟩⟩) | (go_at_call 113; (with_reducible refine (spec_KeyValid.calls k a0_1 false _ A20.out).mono ?_); rintro e w' ⟨rfl, ⟨nd, rfl⟩⟩))
          go_ret
          exact ⟨fe, bp HB.out⟩
    · replace c16 := Bool.eq_false_iff.mpr c16
      subst c16
      have H1 : (some false) = some r := by rw [if_neg (show ¬ (false = true) by decide)] at H; exact H
      clear H
      have H := H1
      clear H1
      obtain rfl := Option.some.inj H
      go_enter Try.func140, Try.ntmps140
      go_wp2_with (first | ((with_reducible refine gate_dst (N := 1) rfl ?_); refine bxe (N := 1) (cs := #[.string a0_0, .string a0_1]) (t := 83) ?_; intro gb228 hg w29 hbox hb; have BK228 := Aside0.mk (hbox); have GW228 := an2 HB hg; have GE228 := an2 HB hg; replace HB := an0 HB hb; clear hb hbox hg; obtain ⟨hcz30_0, hcz30_1, hfz30_0, hfz30_1⟩ := cl2 BK228) | (go_at_call 113; (with_reducible refine (spec_KeyValid.calls k a0_0 false _ A15.out).mono ?_); rintro e w' ⟨rfl, ⟨nd, rfl⟩⟩))
      go_ret
      exact ⟨fe, bp HB.out⟩

/-! ### spec_IntervalJoin: function 141 -/
def spec_IntervalJoin.f (k : Nat) (a0_0 : ByteArray) (a0_1 : ByteArray) (a1_0 : ByteArray) (a1_1 : ByteArray) : Option (ByteArray × ByteArray × Bool) := (spec_IntervalValid.f k a0_0 a0_1).bind fun t235 => (if t235 = true then ((spec_IntervalValid.f k a1_0 a1_1).bind fun t236 => (if t236 = true then (if a0_1.toList = ([] : List UInt8) then (some ((⟨#[]⟩ : ByteArray), (⟨#[]⟩ : ByteArray), false)) else (if a0_1.toList = a1_0.toList then (some (a0_0, a1_1, true)) else (some ((⟨#[]⟩ : ByteArray), (⟨#[]⟩ : ByteArray), false)))) else (some ((⟨#[]⟩ : ByteArray), (⟨#[]⟩ : ByteArray), false)))) else (some ((⟨#[]⟩ : ByteArray), (⟨#[]⟩ : ByteArray), false)))
theorem spec_IntervalJoin.mono : ∀ a0 a1 a2 a3 k, LeO (spec_IntervalJoin.f k a0 a1 a2 a3) (spec_IntervalJoin.f (k + 1) a0 a1 a2 a3) := by
  intro a0 a1 a2 a3 k
  unfold spec_IntervalJoin.f
  repeat' first
      | (with_reducible exact spec_IntervalValid.mono _ _ _)
      | (with_reducible exact LeO.refl _)
      | (with_reducible exact LeO.none _)
      | (with_reducible refine LeO.ite ?_ ?_)
      | (with_reducible refine LeO.bind ?_ (fun _ => ?_))
      | exact spec_IntervalValid.mono _ _ _
      | exact LeO.none _
      | refine LeO.ite ?_ ?_
      | refine LeO.bind ?_ (fun _ => ?_)
set_option maxHeartbeats 8000000 in
set_option maxRecDepth 100000 in
theorem spec_IntervalJoin.calls (k : Nat) (a0_0 : ByteArray) (a0_1 : ByteArray) (a1_0 : ByteArray) (a1_1 : ByteArray) (r1 : ByteArray) (r2 : ByteArray) (r3 : Bool) (w : World) (h : spec_IntervalJoin.f k a0_0 a0_1 a1_0 a1_1 = some (r1, r2, r3)) :
    Calls Try.prog 141 #[.agg #[.string a0_0, .string a0_1], .agg #[.string a1_0, .string a1_1]] w fun e w' => e = .returned (.tuple #[.agg #[.string r1, .string r2], .bool r3]) ∧ Below w.heap.size w w' := by
  have hu83 := Try.underlying83
  have HB := Aside0.mk (Below.refl w.heap.size w)
  have H : ((spec_IntervalValid.f k a0_0 a0_1).bind fun t235 => (if t235 = true then ((spec_IntervalValid.f k a1_0 a1_1).bind fun t236 => (if t236 = true then (if a0_1.toList = ([] : List UInt8) then (some ((⟨#[]⟩ : ByteArray), (⟨#[]⟩ : ByteArray), false)) else (if a0_1.toList = a1_0.toList then (some (a0_0, a1_1, true)) else (some ((⟨#[]⟩ : ByteArray), (⟨#[]⟩ : ByteArray), false)))) else (some ((⟨#[]⟩ : ByteArray), (⟨#[]⟩ : ByteArray), false)))) else (some ((⟨#[]⟩ : ByteArray), (⟨#[]⟩ : ByteArray), false)))) = some (r1, r2, r3) := h
  clear h
  replace H := Option.bind_eq_some_iff.mp H
  obtain ⟨t235, A30, H⟩ := H
  replace H : (if t235 = true then ((spec_IntervalValid.f k a1_0 a1_1).bind fun t236 => (if t236 = true then (if a0_1.toList = ([] : List UInt8) then (some ((⟨#[]⟩ : ByteArray), (⟨#[]⟩ : ByteArray), false)) else (if a0_1.toList = a1_0.toList then (some (a0_0, a1_1, true)) else (some ((⟨#[]⟩ : ByteArray), (⟨#[]⟩ : ByteArray), false)))) else (some ((⟨#[]⟩ : ByteArray), (⟨#[]⟩ : ByteArray), false)))) else (some ((⟨#[]⟩ : ByteArray), (⟨#[]⟩ : ByteArray), false))) = some (r1, r2, r3) := H
  have A3 := Aside0.mk A30
  clear A30
  by_cases c4 : t235 = true
  · subst c4
    have H1 : ((spec_IntervalValid.f k a1_0 a1_1).bind fun t236 => (if t236 = true then (if a0_1.toList = ([] : List UInt8) then (some ((⟨#[]⟩ : ByteArray), (⟨#[]⟩ : ByteArray), false)) else (if a0_1.toList = a1_0.toList then (some (a0_0, a1_1, true)) else (some ((⟨#[]⟩ : ByteArray), (⟨#[]⟩ : ByteArray), false)))) else (some ((⟨#[]⟩ : ByteArray), (⟨#[]⟩ : ByteArray), false)))) = some (r1, r2, r3) := by rw [if_pos rfl] at H; exact H
    clear H
    have H := H1
    clear H1
    replace H := Option.bind_eq_some_iff.mp H
    obtain ⟨t236, A50, H⟩ := H
    replace H : (if t236 = true then (if a0_1.toList = ([] : List UInt8) then (some ((⟨#[]⟩ : ByteArray), (⟨#[]⟩ : ByteArray), false)) else (if a0_1.toList = a1_0.toList then (some (a0_0, a1_1, true)) else (some ((⟨#[]⟩ : ByteArray), (⟨#[]⟩ : ByteArray), false)))) else (some ((⟨#[]⟩ : ByteArray), (⟨#[]⟩ : ByteArray), false))) = some (r1, r2, r3) := H
    have A5 := Aside0.mk A50
    clear A50
    by_cases c6 : t236 = true
    · subst c6
      have H1 : (if a0_1.toList = ([] : List UInt8) then (some ((⟨#[]⟩ : ByteArray), (⟨#[]⟩ : ByteArray), false)) else (if a0_1.toList = a1_0.toList then (some (a0_0, a1_1, true)) else (some ((⟨#[]⟩ : ByteArray), (⟨#[]⟩ : ByteArray), false)))) = some (r1, r2, r3) := by rw [if_pos rfl] at H; exact H
      clear H
      have H := H1
      clear H1
      by_cases c7 : a0_1.toList = ([] : List UInt8)
      · rw [if_pos c7] at H
        have c7b0 : (a0_1.toList == ([] : List UInt8)) = true := beq_iff_eq.mpr c7
        have c7b1 : (a0_1.toList != ([] : List UInt8)) = false := bne_eq_false_iff_eq.mpr c7
        clear c7
        simp only [Option.some.injEq, Prod.mk.injEq] at H
        obtain ⟨rfl, rfl, rfl⟩ := H
        go_enter Try.func141, Try.ntmps141
        go_wp2_with (first | ((with_reducible refine gate_dst (N := 2) rfl ?_); refine bxe (N := 2) (cs := #[.string a0_0, .string a0_1]) (t := 83) ?_; intro gb232 hg w8 hbox hb; have BK232 := Aside0.mk (hbox); have GW232 := an2 HB hg; have GE232 := an2 HB hg; replace HB := an0 HB hb; clear hb hbox hg) | ((with_reducible refine gate_dst (N := 3) rfl ?_); refine bxe (N := 3) (cs := #[.string a1_0, .string a1_1]) (t := 83) ?_; intro gb233 hg w9 hbox hb; have BK233 := Aside0.mk (hbox); have GW233 := an2 HB hg; have GE233 := an2 HB hg; have NB232_233 := an3 BK232 hg; have NB233_232 := an4 BK232 hg; replace BK232 := an1 BK232 hb; replace HB := an0 HB hb; clear hb hbox hg) | ((with_reducible refine gate_dst (N := 4) rfl ?_); refine bxe (N := 4) (cs := #[.string (⟨#[]⟩ : ByteArray), .string (⟨#[]⟩ : ByteArray)]) (t := 83) ?_; intro gb234 hg w10 hbox hb; have BK234 := Aside0.mk (hbox); have GW234 := an2 HB hg; have GE234 := an2 HB hg; have NB232_234 := an3 BK232 hg; have NB234_232 := an4 BK232 hg; have NB233_234 := an3 BK233 hg; have NB234_233 := an4 BK233 hg; replace BK232 := an1 BK232 hb; replace BK233 := an1 BK233 hb; replace HB := an0 HB hb; clear hb hbox hg; have hnb11 := NB232_233.out; have hnc11 := NB233_232.out; have hnb12 := NB232_234.out; have hnc12 := NB234_232.out; obtain ⟨hcz13_0, hcz13_1, hfz13_0, hfz13_1⟩ := cl2 BK232) | ((with_reducible refine gate_callee (f := 140) rfl ?_); refine gsl (some 7) rfl Try.func140 #[.agg #[.string a0_0, .string a0_1]] rfl ?_; (with_reducible refine (spec_IntervalValid.calls k a0_0 a0_1 true _ A3.out).mono ?_); rintro e w14 ⟨rfl, hb⟩; refine ⟨_, rfl, ?_⟩; replace BK232 := an1 BK232 hb; replace BK233 := an1 BK233 hb; replace BK234 := an1 BK234 hb; replace HB := an0 HB hb; (try clear hb); (try clear hb2); (try clear hk); (try clear hi); have hnb15 := NB233_234.out; have hnc15 := NB234_233.out; obtain ⟨hcz16_0, hcz16_1, hfz16_0, hfz16_1⟩ := cl2 BK233) | (go_at_call 140; (with_reducible refine (spec_IntervalValid.calls k a1_0 a1_1 true _ A5.out).mono ?_); rintro e w17 ⟨rfl, hb⟩; replace BK232 := an1 BK232 hb; replace BK233 := an1 BK233 hb; replace BK234 := an1 BK234 hb; replace HB := an0 HB hb; (try clear hb); (try clear hb2); (try clear hk); (try clear hi); obtain ⟨hcz18_0, hcz18_1, hfz18_0, hfz18_1⟩ := cl2 BK232; obtain ⟨hcz19_0, hcz19_1, hfz19_0, hfz19_1⟩ := cl2 BK234))
        refine bodyPost_ret (results_ct rfl _ _ gb234 83 #[.string (⟨#[]⟩ : ByteArray), .string (⟨#[]⟩ : ByteArray)] (0, 0) _ rfl (by (with_reducible repeat (first | refine blk_drewN ?_ _ | refine blk_drew ?_ | refine blk_alloc ?_ _)); refine blk_put (cs := #[.string (⟨#[]⟩ : ByteArray), .string (⟨#[]⟩ : ByteArray)]) ?_ 1 _ rfl; (with_reducible repeat (first | refine blk_drewN ?_ _ | refine blk_drew ?_ | refine blk_alloc ?_ _)); refine blk_put (cs := #[.string (⟨#[]⟩ : ByteArray), .string (⟨#[]⟩ : ByteArray)]) ?_ 0 _ rfl; (with_reducible repeat (first | refine blk_drewN ?_ _ | refine blk_drew ?_ | refine blk_alloc ?_ _)); exact BK234.out) Try.underlying83 rfl (by kernel_rfl)) rfl ?_
        exact ⟨fe, bp HB.out⟩
      · rw [if_neg c7] at H
        have c7b0 : (a0_1.toList == ([] : List UInt8)) = false := beq_eq_false_iff_ne.mpr c7
        have c7b1 : (a0_1.toList != ([] : List UInt8)) = true := bne_iff_ne.mpr c7
        by_cases c20 : a0_1.toList = a1_0.toList
        · rw [if_pos c20] at H
          have c20b0 : (a0_1.toList == a1_0.toList) = true := beq_iff_eq.mpr c20
          have c20b1 : (a0_1.toList != a1_0.toList) = false := bne_eq_false_iff_eq.mpr c20
          clear c20
          simp only [Option.some.injEq, Prod.mk.injEq] at H
          obtain ⟨rfl, rfl, rfl⟩ := H
          go_enter Try.func141, Try.ntmps141
          go_wp2_with (first | ((with_reducible refine gate_dst (N := 2) rfl ?_); refine bxe (N := 2) (cs := #[.string a0_0, .string a0_1]) (t := 83) ?_; intro gb232 hg w21 hbox hb; have BK232 := Aside0.mk (hbox); have GW232 := an2 HB hg; have GE232 := an2 HB hg; replace HB := an0 HB hb; clear hb hbox hg) | ((with_reducible refine gate_dst (N := 3) rfl ?_); refine bxe (N := 3) (cs := #[.string a1_0, .string a1_1]) (t := 83) ?_; intro gb233 hg w22 hbox hb; have BK233 := Aside0.mk (hbox); have GW233 := an2 HB hg; have GE233 := an2 HB hg; have NB232_233 := an3 BK232 hg; have NB233_232 := an4 BK232 hg; replace BK232 := an1 BK232 hb; replace HB := an0 HB hb; clear hb hbox hg) | ((with_reducible refine gate_dst (N := 4) rfl ?_); refine bxe (N := 4) (cs := #[.string (⟨#[]⟩ : ByteArray), .string (⟨#[]⟩ : ByteArray)]) (t := 83) ?_; intro gb234 hg w23 hbox hb; have BK234 := Aside0.mk (hbox); have GW234 := an2 HB hg; have GE234 := an2 HB hg; have NB232_234 := an3 BK232 hg; have NB234_232 := an4 BK232 hg; have NB233_234 := an3 BK233 hg; have NB234_233 := an4 BK233 hg; replace BK232 := an1 BK232 hb; replace BK233 := an1 BK233 hb; replace HB := an0 HB hb; clear hb hbox hg; have hnb24 := NB232_233.out; have hnc24 := NB233_232.out; have hnb25 := NB232_234.out; have hnc25 := NB234_232.out; obtain ⟨hcz26_0, hcz26_1, hfz26_0, hfz26_1⟩ := cl2 BK232) | ((with_reducible refine gate_callee (f := 140) rfl ?_); refine gsl (some 7) rfl Try.func140 #[.agg #[.string a0_0, .string a0_1]] rfl ?_; (with_reducible refine (spec_IntervalValid.calls k a0_0 a0_1 true _ A3.out).mono ?_); rintro e w27 ⟨rfl, hb⟩; refine ⟨_, rfl, ?_⟩; replace BK232 := an1 BK232 hb; replace BK233 := an1 BK233 hb; replace BK234 := an1 BK234 hb; replace HB := an0 HB hb; (try clear hb); (try clear hb2); (try clear hk); (try clear hi); have hnb28 := NB233_234.out; have hnc28 := NB234_233.out; obtain ⟨hcz29_0, hcz29_1, hfz29_0, hfz29_1⟩ := cl2 BK233) | (go_at_call 140; (with_reducible refine (spec_IntervalValid.calls k a1_0 a1_1 true _ A5.out).mono ?_); rintro e w30 ⟨rfl, hb⟩; replace BK232 := an1 BK232 hb; replace BK233 := an1 BK233 hb; replace BK234 := an1 BK234 hb; replace HB := an0 HB hb; (try clear hb); (try clear hb2); (try clear hk); (try clear hi); obtain ⟨hcz31_0, hcz31_1, hfz31_0, hfz31_1⟩ := cl2 BK232; obtain ⟨hcz32_0, hcz32_1, hfz32_0, hfz32_1⟩ := cl2 BK233; obtain ⟨hcz33_0, hcz33_1, hfz33_0, hfz33_1⟩ := cl2 BK234))
          refine bodyPost_ret (results_ct rfl _ _ gb234 83 #[.string a0_0, .string a1_1] (0, 0) _ rfl (by (with_reducible repeat (first | refine blk_drewN ?_ _ | refine blk_drew ?_ | refine blk_alloc ?_ _)); refine blk_put (cs := #[.string a0_0, .string (⟨#[]⟩ : ByteArray)]) ?_ 1 _ rfl; (with_reducible repeat (first | refine blk_drewN ?_ _ | refine blk_drew ?_ | refine blk_alloc ?_ _)); refine blk_put (cs := #[.string (⟨#[]⟩ : ByteArray), .string (⟨#[]⟩ : ByteArray)]) ?_ 0 _ rfl; (with_reducible repeat (first | refine blk_drewN ?_ _ | refine blk_drew ?_ | refine blk_alloc ?_ _)); exact BK234.out) Try.underlying83 rfl (by kernel_rfl)) rfl ?_
          exact ⟨fe, bp HB.out⟩
        · rw [if_neg c20] at H
          have c20b0 : (a0_1.toList == a1_0.toList) = false := beq_eq_false_iff_ne.mpr c20
          have c20b1 : (a0_1.toList != a1_0.toList) = true := bne_iff_ne.mpr c20
          simp only [Option.some.injEq, Prod.mk.injEq] at H
          obtain ⟨rfl, rfl, rfl⟩ := H
          go_enter Try.func141, Try.ntmps141
          go_wp2_with (first | ((with_reducible refine gate_dst (N := 2) rfl ?_); refine bxe (N := 2) (cs := #[.string a0_0, .string a0_1]) (t := 83) ?_; intro gb232 hg w34 hbox hb; have BK232 := Aside0.mk (hbox); have GW232 := an2 HB hg; have GE232 := an2 HB hg; replace HB := an0 HB hb; clear hb hbox hg) | ((with_reducible refine gate_dst (N := 3) rfl ?_); refine bxe (N := 3) (cs := #[.string a1_0, .string a1_1]) (t := 83) ?_; intro gb233 hg w35 hbox hb; have BK233 := Aside0.mk (hbox); have GW233 := an2 HB hg; have GE233 := an2 HB hg; have NB232_233 := an3 BK232 hg; have NB233_232 := an4 BK232 hg; replace BK232 := an1 BK232 hb; replace HB := an0 HB hb; clear hb hbox hg) | ((with_reducible refine gate_dst (N := 4) rfl ?_); refine bxe (N := 4) (cs := #[.string (⟨#[]⟩ : ByteArray), .string (⟨#[]⟩ : ByteArray)]) (t := 83) ?_; intro gb234 hg w36 hbox hb; have BK234 := Aside0.mk (hbox); have GW234 := an2 HB hg; have GE234 := an2 HB hg; have NB232_234 := an3 BK232 hg; have NB234_232 := an4 BK232 hg; have NB233_234 := an3 BK233 hg; have NB234_233 := an4 BK233 hg; replace BK232 := an1 BK232 hb; replace BK233 := an1 BK233 hb; replace HB := an0 HB hb; clear hb hbox hg; have hnb37 := NB232_233.out; have hnc37 := NB233_232.out; have hnb38 := NB232_234.out; have hnc38 := NB234_232.out; obtain ⟨hcz39_0, hcz39_1, hfz39_0, hfz39_1⟩ := cl2 BK232) | ((with_reducible refine gate_callee (f := 140) rfl ?_); refine gsl (some 7) rfl Try.func140 #[.agg #[.string a0_0, .string a0_1]] rfl ?_; (with_reducible refine (spec_IntervalValid.calls k a0_0 a0_1 true _ A3.out).mono ?_); rintro e w40 ⟨rfl, hb⟩; refine ⟨_, rfl, ?_⟩; replace BK232 := an1 BK232 hb; replace BK233 := an1 BK233 hb; replace BK234 := an1 BK234 hb; replace HB := an0 HB hb; (try clear hb); (try clear hb2); (try clear hk); (try clear hi); have hnb41 := NB233_234.out; have hnc41 := NB234_233.out; obtain ⟨hcz42_0, hcz42_1, hfz42_0, hfz42_1⟩ := cl2 BK233) | (go_at_call 140; (with_reducible refine (spec_IntervalValid.calls k a1_0 a1_1 true _ A5.out).mono ?_); rintro e w43 ⟨rfl, hb⟩; replace BK232 := an1 BK232 hb; replace BK233 := an1 BK233 hb; replace BK234 := an1 BK234 hb; replace HB := an0 HB hb; (try clear hb); (try clear hb2); (try clear hk); (try clear hi); obtain ⟨hcz44_0, hcz44_1, hfz44_0, hfz44_1⟩ := cl2 BK232; obtain ⟨hcz45_0, hcz45_1, hfz45_0, hfz45_1⟩ := cl2 BK233; obtain ⟨hcz46_0, hcz46_1, hfz46_0, hfz46_1⟩ := cl2 BK234))
          refine bodyPost_ret (results_ct rfl _ _ gb234 83 #[.string (⟨#[]⟩ : ByteArray), .string (⟨#[]⟩ : ByteArray)] (0, 0) _ rfl (by (with_reducible repeat (first | refine blk_drewN ?_ _ | refine blk_drew ?_ | refine blk_alloc ?_ _)); refine blk_put (cs := #[.string (⟨#[]⟩ : ByteArray), .string (⟨#[]⟩ : ByteArray)]) ?_ 1 _ rfl; (with_reducible repeat (first | refine blk_drewN ?_ _ | refine blk_drew ?_ | refine blk_alloc ?_ _)); refine blk_put (cs := #[.string (⟨#[]⟩ : ByteArray), .string (⟨#[]⟩ : ByteArray)]) ?_ 0 _ rfl; (with_reducible repeat (first | refine blk_drewN ?_ _ | refine blk_drew ?_ | refine blk_alloc ?_ _)); exact BK234.out) Try.underlying83 rfl (by kernel_rfl)) rfl ?_
          exact ⟨fe, bp HB.out⟩
    · replace c6 := Bool.eq_false_iff.mpr c6
      subst c6
      have H1 : (some ((⟨#[]⟩ : ByteArray), (⟨#[]⟩ : ByteArray), false)) = some (r1, r2, r3) := by rw [if_neg (show ¬ (false = true) by decide)] at H; exact H
      clear H
      have H := H1
      clear H1
      simp only [Option.some.injEq, Prod.mk.injEq] at H
      obtain ⟨rfl, rfl, rfl⟩ := H
      go_enter Try.func141, Try.ntmps141
      go_wp2_with (first | ((with_reducible refine gate_dst (N := 2) rfl ?_); refine bxe (N := 2) (cs := #[.string a0_0, .string a0_1]) (t := 83) ?_; intro gb232 hg w47 hbox hb; have BK232 := Aside0.mk (hbox); have GW232 := an2 HB hg; have GE232 := an2 HB hg; replace HB := an0 HB hb; clear hb hbox hg) | ((with_reducible refine gate_dst (N := 3) rfl ?_); refine bxe (N := 3) (cs := #[.string a1_0, .string a1_1]) (t := 83) ?_; intro gb233 hg w48 hbox hb; have BK233 := Aside0.mk (hbox); have GW233 := an2 HB hg; have GE233 := an2 HB hg; have NB232_233 := an3 BK232 hg; have NB233_232 := an4 BK232 hg; replace BK232 := an1 BK232 hb; replace HB := an0 HB hb; clear hb hbox hg) | ((with_reducible refine gate_dst (N := 4) rfl ?_); refine bxe (N := 4) (cs := #[.string (⟨#[]⟩ : ByteArray), .string (⟨#[]⟩ : ByteArray)]) (t := 83) ?_; intro gb234 hg w49 hbox hb; have BK234 := Aside0.mk (hbox); have GW234 := an2 HB hg; have GE234 := an2 HB hg; have NB232_234 := an3 BK232 hg; have NB234_232 := an4 BK232 hg; have NB233_234 := an3 BK233 hg; have NB234_233 := an4 BK233 hg; replace BK232 := an1 BK232 hb; replace BK233 := an1 BK233 hb; replace HB := an0 HB hb; clear hb hbox hg; have hnb50 := NB232_233.out; have hnc50 := NB233_232.out; have hnb51 := NB232_234.out; have hnc51 := NB234_232.out; obtain ⟨hcz52_0, hcz52_1, hfz52_0, hfz52_1⟩ := cl2 BK232) | ((with_reducible refine gate_callee (f := 140) rfl ?_); refine gsl (some 7) rfl Try.func140 #[.agg #[.string a0_0, .string a0_1]] rfl ?_; (with_reducible refine (spec_IntervalValid.calls k a0_0 a0_1 true _ A3.out).mono ?_); rintro e w53 ⟨rfl, hb⟩; refine ⟨_, rfl, ?_⟩; replace BK232 := an1 BK232 hb; replace BK233 := an1 BK233 hb; replace BK234 := an1 BK234 hb; replace HB := an0 HB hb; (try clear hb); (try clear hb2); (try clear hk); (try clear hi); have hnb54 := NB233_234.out; have hnc54 := NB234_233.out; obtain ⟨hcz55_0, hcz55_1, hfz55_0, hfz55_1⟩ := cl2 BK233) | (go_at_call 140; (with_reducible refine (spec_IntervalValid.calls k a1_0 a1_1 false _ A5.out).mono ?_); rintro e w56 ⟨rfl, hb⟩; replace BK232 := an1 BK232 hb; replace BK233 := an1 BK233 hb; replace BK234 := an1 BK234 hb; replace HB := an0 HB hb; (try clear hb); (try clear hb2); (try clear hk); (try clear hi); obtain ⟨hcz57_0, hcz57_1, hfz57_0, hfz57_1⟩ := cl2 BK234))
      refine bodyPost_ret (results_ct rfl _ _ gb234 83 #[.string (⟨#[]⟩ : ByteArray), .string (⟨#[]⟩ : ByteArray)] (0, 0) _ rfl (by (with_reducible repeat (first | refine blk_drewN ?_ _ | refine blk_drew ?_ | refine blk_alloc ?_ _)); refine blk_put (cs := #[.string (⟨#[]⟩ : ByteArray), .string (⟨#[]⟩ : ByteArray)]) ?_ 1 _ rfl; (with_reducible repeat (first | refine blk_drewN ?_ _ | refine blk_drew ?_ | refine blk_alloc ?_ _)); refine blk_put (cs := #[.string (⟨#[]⟩ : ByteArray), .string (⟨#[]⟩ : ByteArray)]) ?_ 0 _ rfl; (with_reducible repeat (first | refine blk_drewN ?_ _ | refine blk_drew ?_ | refine blk_alloc ?_ _)); exact BK234.out) Try.underlying83 rfl (by kernel_rfl)) rfl ?_
      exact ⟨fe, bp HB.out⟩
  · replace c4 := Bool.eq_false_iff.mpr c4
    subst c4
    have H1 : (some ((⟨#[]⟩ : ByteArray), (⟨#[]⟩ : ByteArray), false)) = some (r1, r2, r3) := by rw [if_neg (show ¬ (false = true) by decide)] at H; exact H
    clear H
    have H := H1
    clear H1
    simp only [Option.some.injEq, Prod.mk.injEq] at H
    obtain ⟨rfl, rfl, rfl⟩ := H
    go_enter Try.func141, Try.ntmps141
    go_wp2_with (first | ((with_reducible refine gate_dst (N := 2) rfl ?_); refine bxe (N := 2) (cs := #[.string a0_0, .string a0_1]) (t := 83) ?_; intro gb232 hg w58 hbox hb; have BK232 := Aside0.mk (hbox); have GW232 := an2 HB hg; have GE232 := an2 HB hg; replace HB := an0 HB hb; clear hb hbox hg) | ((with_reducible refine gate_dst (N := 3) rfl ?_); refine bxe (N := 3) (cs := #[.string a1_0, .string a1_1]) (t := 83) ?_; intro gb233 hg w59 hbox hb; have BK233 := Aside0.mk (hbox); have GW233 := an2 HB hg; have GE233 := an2 HB hg; have NB232_233 := an3 BK232 hg; have NB233_232 := an4 BK232 hg; replace BK232 := an1 BK232 hb; replace HB := an0 HB hb; clear hb hbox hg) | ((with_reducible refine gate_dst (N := 4) rfl ?_); refine bxe (N := 4) (cs := #[.string (⟨#[]⟩ : ByteArray), .string (⟨#[]⟩ : ByteArray)]) (t := 83) ?_; intro gb234 hg w60 hbox hb; have BK234 := Aside0.mk (hbox); have GW234 := an2 HB hg; have GE234 := an2 HB hg; have NB232_234 := an3 BK232 hg; have NB234_232 := an4 BK232 hg; have NB233_234 := an3 BK233 hg; have NB234_233 := an4 BK233 hg; replace BK232 := an1 BK232 hb; replace BK233 := an1 BK233 hb; replace HB := an0 HB hb; clear hb hbox hg; have hnb61 := NB232_233.out; have hnc61 := NB233_232.out; have hnb62 := NB232_234.out; have hnc62 := NB234_232.out; obtain ⟨hcz63_0, hcz63_1, hfz63_0, hfz63_1⟩ := cl2 BK232) | ((with_reducible refine gate_callee (f := 140) rfl ?_); refine gsl (some 7) rfl Try.func140 #[.agg #[.string a0_0, .string a0_1]] rfl ?_; (with_reducible refine (spec_IntervalValid.calls k a0_0 a0_1 false _ A3.out).mono ?_); rintro e w64 ⟨rfl, hb⟩; refine ⟨_, rfl, ?_⟩; replace BK232 := an1 BK232 hb; replace BK233 := an1 BK233 hb; replace BK234 := an1 BK234 hb; replace HB := an0 HB hb; (try clear hb); (try clear hb2); (try clear hk); (try clear hi); have hnb65 := NB234_233.out; have hnc65 := NB233_234.out; obtain ⟨hcz66_0, hcz66_1, hfz66_0, hfz66_1⟩ := cl2 BK234))
    refine bodyPost_ret (results_ct rfl _ _ gb234 83 #[.string (⟨#[]⟩ : ByteArray), .string (⟨#[]⟩ : ByteArray)] (0, 0) _ rfl (by (with_reducible repeat (first | refine blk_drewN ?_ _ | refine blk_drew ?_ | refine blk_alloc ?_ _)); refine blk_put (cs := #[.string (⟨#[]⟩ : ByteArray), .string (⟨#[]⟩ : ByteArray)]) ?_ 1 _ rfl; (with_reducible repeat (first | refine blk_drewN ?_ _ | refine blk_drew ?_ | refine blk_alloc ?_ _)); refine blk_put (cs := #[.string (⟨#[]⟩ : ByteArray), .string (⟨#[]⟩ : ByteArray)]) ?_ 0 _ rfl; (with_reducible repeat (first | refine blk_drewN ?_ _ | refine blk_drew ?_ | refine blk_alloc ?_ _)); exact BK234.out) Try.underlying83 rfl (by kernel_rfl)) rfl ?_
    exact ⟨fe, bp HB.out⟩

end Go.Proofs.Ytfeeifefmenlmaa.PFnExactPartDigests
