-- Written by a program of this session, in the manner of the kit's print (wip/pp.py): functions and their contracts.
import Derived.Test.YtfeeifefmenlmaaPFnExactRepliesRightx0
import Derived.Test.YtfeeifefmenlmaaPFnExactRepliesRightx1
namespace Go.Proofs.Ytfeeifefmenlmaa.PFnExactRepliesRight
open Go.RowKit Go.Proofs.YtfeeifefmenlmaaW.PrintWords Go.Proofs.YtfeeifefmenlmaaW.PrintLast Go.Proofs.YtfeeifefmenlmaaW.PrintMore
attribute [local go_sem] binOp_leq_str binOp_gtr_str binOp_geq_str max2_int min2_int max_two min_two max_three min_three max_four min_four   -- for this text's walks alone
set_option linter.unusedVariables false
set_option linter.unusedSimpArgs false

/-! ### spec_CommandValid: function 160 -/
mutual
def spec_CommandValid.j0 : Nat → Bool → Int → ByteArray → Int → Int → Option (Bool)
  | 0, _, _, _, _, _ => none
  | k + 1, x16, x114000, x114001, x114002, x114003 => if x16 = true then (some false) else (if x114000 = 1 then (spec_CommandValid.j1 k x114000 (x114000 == 1) x114000 x114001 x114002 x114003) else (if x114000 = 3 then (spec_CommandValid.j1 k x114000 (x114000 == 3) x114000 x114001 x114002 x114003) else (spec_CommandValid.j1 k x114000 (x114000 == 5) x114000 x114001 x114002 x114003)))
def spec_CommandValid.j1 : Nat → Int → Bool → Int → ByteArray → Int → Int → Option (Bool)
  | 0, _, _, _, _, _, _ => none
  | k + 1, x18, x19, x114000, x114001, x114002, x114003 => if x19 = true then (if x114002 = 0 then (some (x114003 == 0)) else (some false)) else (if x18 = 2 then ((spec_l1In.f x114002 0 999).bind fun t115 => (if t115 = true then (some (x114003 == 0)) else (some false))) else (if x18 = 4 then ((spec_l1In.f x114002 0 999).bind fun t116 => (if t116 = true then ((spec_l1In.f x114003 (-1) 999).bind fun t117 => (some t117)) else (some false))) else (some false)))
end
def spec_CommandValid.f (k : Nat) (a0_0 : Int) (a0_1 : ByteArray) (a0_2 : Int) (a0_3 : Int) : Option (Bool) := (spec_KeyValid.f k a0_1).bind fun t114 => (if t114 = true then (spec_CommandValid.j0 k false a0_0 a0_1 a0_2 a0_3) else (if a0_0 = 5 then (spec_CommandValid.j0 k (a0_1.toList != ([] : List UInt8)) a0_0 a0_1 a0_2 a0_3) else (spec_CommandValid.j0 k true a0_0 a0_1 a0_2 a0_3)))
theorem spec_CommandValid.mono_l : ∀ k, (∀ y0 y1 y2 y3 y4, LeO (spec_CommandValid.j0 k y0 y1 y2 y3 y4) (spec_CommandValid.j0 (k + 1) y0 y1 y2 y3 y4)) ∧ (∀ y0 y1 y2 y3 y4 y5, LeO (spec_CommandValid.j1 k y0 y1 y2 y3 y4 y5) (spec_CommandValid.j1 (k + 1) y0 y1 y2 y3 y4 y5))
  | 0 => ⟨fun _ _ _ _ _ r h => by simp [spec_CommandValid.j0] at h, fun _ _ _ _ _ _ r h => by simp [spec_CommandValid.j1] at h⟩
  | k + 1 => by
    obtain ⟨ih0, ih1⟩ := spec_CommandValid.mono_l k
    refine ⟨?_, ?_⟩
    · intro y0 y1 y2 y3 y4
      unfold spec_CommandValid.j0
      repeat' first
      | (with_reducible exact ih0 _ _ _ _ _)
      | (with_reducible exact ih1 _ _ _ _ _ _)
      | (with_reducible exact spec_KeyValid.mono _ _)
      | (with_reducible exact LeO.refl _)
      | (with_reducible exact LeO.none _)
      | (with_reducible refine LeO.ite ?_ ?_)
      | (with_reducible refine LeO.bind ?_ (fun _ => ?_))
      | exact ih0 _ _ _ _ _
      | exact ih1 _ _ _ _ _ _
      | exact spec_KeyValid.mono _ _
      | exact LeO.none _
      | refine LeO.ite ?_ ?_
      | refine LeO.bind ?_ (fun _ => ?_)
    · intro y0 y1 y2 y3 y4 y5
      unfold spec_CommandValid.j1
      repeat' first
      | (with_reducible exact ih0 _ _ _ _ _)
      | (with_reducible exact ih1 _ _ _ _ _ _)
      | (with_reducible exact spec_KeyValid.mono _ _)
      | (with_reducible exact LeO.refl _)
      | (with_reducible exact LeO.none _)
      | (with_reducible refine LeO.ite ?_ ?_)
      | (with_reducible refine LeO.bind ?_ (fun _ => ?_))
      | exact ih0 _ _ _ _ _
      | exact ih1 _ _ _ _ _ _
      | exact spec_KeyValid.mono _ _
      | exact LeO.none _
      | refine LeO.ite ?_ ?_
      | refine LeO.bind ?_ (fun _ => ?_)
theorem spec_CommandValid.mono : ∀ a0 a1 a2 a3 k, LeO (spec_CommandValid.f k a0 a1 a2 a3) (spec_CommandValid.f (k + 1) a0 a1 a2 a3) := by
  intro a0 a1 a2 a3 k
  obtain ⟨ih0, ih1⟩ := spec_CommandValid.mono_l k
  unfold spec_CommandValid.f
  repeat' first
      | (with_reducible exact ih0 _ _ _ _ _)
      | (with_reducible exact ih1 _ _ _ _ _ _)
      | (with_reducible exact spec_KeyValid.mono _ _)
      | (with_reducible exact LeO.refl _)
      | (with_reducible exact LeO.none _)
      | (with_reducible refine LeO.ite ?_ ?_)
      | (with_reducible refine LeO.bind ?_ (fun _ => ?_))
      | exact ih0 _ _ _ _ _
      | exact ih1 _ _ _ _ _ _
      | exact spec_KeyValid.mono _ _
      | exact LeO.none _
      | refine LeO.ite ?_ ?_
      | refine LeO.bind ?_ (fun _ => ?_)
set_option maxHeartbeats 8000000 in
set_option maxRecDepth 100000 in
theorem spec_CommandValid.calls (k : Nat) (a0_0 : Int) (a0_1 : ByteArray) (a0_2 : Int) (a0_3 : Int) (r : Bool) (w : World) (h : spec_CommandValid.f k a0_0 a0_1 a0_2 a0_3 = some r) :
    Calls Try.prog 160 #[.agg #[.int .i64 a0_0, .string a0_1, .int .i64 a0_2, .int .i64 a0_3]] w fun e w' => e = .returned (.bool r) ∧ Below w.heap.size w w' := by
  have hu40 := Try.underlying40
  have HB := Aside0.mk (Below.refl w.heap.size w)
  have H : ((spec_KeyValid.f k a0_1).bind fun t114 => (if t114 = true then (spec_CommandValid.j0 k false a0_0 a0_1 a0_2 a0_3) else (if a0_0 = 5 then (spec_CommandValid.j0 k (a0_1.toList != ([] : List UInt8)) a0_0 a0_1 a0_2 a0_3) else (spec_CommandValid.j0 k true a0_0 a0_1 a0_2 a0_3)))) = some r := h
  clear h
  have HC2 := Aside0.mk H
  clear H
  go_enter Try.func160, Try.ntmps160
  go_upto_region 1 with (first | ((with_reducible refine gate_dst (N := 1) rfl ?_); refine bxe (N := 1) (cs := #[.int .i64 a0_0, .string a0_1, .int .i64 a0_2, .int .i64 a0_3]) (t := 40) ?_; intro gb113 hg w3 hbox hb; have BK113 := Aside0.mk (hbox); have GW113 := an2 HB hg; have GE113 := an2 HB hg; replace HB := an0 HB hb; clear hb hbox hg))
  (try simp only [Act.put, List.setIfInBounds_toArray, List.set_cons_zero, List.set_cons_succ])
  go_cut [16] (fun v16 wc => ∃ (kq : Nat) (x16_1 : Bool), v16 = .bool x16_1 ∧ Aside0 (spec_CommandValid.j0 kq x16_1 a0_0 a0_1 a0_2 a0_3 = some r) ∧ Aside0 (kq ≤ k) ∧ Aside0 (wc.heap[gb113]? = some (.cells #[.int .i64 a0_0, .string a0_1, .int .i64 a0_2, .int .i64 a0_3] 40 (0, 0))) ∧ Aside0 (Below w.heap.size w wc))
  case first =>
    have H := HC2.out
    clear HC2
    replace H := Option.bind_eq_some_iff.mp H
    obtain ⟨t114, A40, H⟩ := H
    replace H : (if t114 = true then (spec_CommandValid.j0 k false a0_0 a0_1 a0_2 a0_3) else (if a0_0 = 5 then (spec_CommandValid.j0 k (a0_1.toList != ([] : List UInt8)) a0_0 a0_1 a0_2 a0_3) else (spec_CommandValid.j0 k true a0_0 a0_1 a0_2 a0_3))) = some r := H
    have A4 := Aside0.mk A40
    clear A40
    by_cases c5 : t114 = true
    · subst c5
      have H1 : (spec_CommandValid.j0 k false a0_0 a0_1 a0_2 a0_3) = some r := by rw [if_pos rfl] at H; exact H
      clear H
      have H := H1
      clear H1
      have H' := Aside0.mk H
      clear H
      obtain ⟨hcz6_0, hcz6_1, hcz6_2, hcz6_3, hfz6_0, hfz6_1, hfz6_2, hfz6_3⟩ := cl4 BK113
      go_wp2_with (first | ((with_reducible refine gate_callee (f := 113) rfl ?_); refine gsl (some 5) rfl Try.func113 #[.string a0_1] rfl ?_; (with_reducible refine (spec_KeyValid.calls k a0_1 true _ A4.out).mono ?_); rintro e w' ⟨rfl, ⟨nd, rfl⟩⟩; refine ⟨_, rfl, ?_⟩))
      go_meet
      case rel => exact ⟨_, (false), (by first | rfl | (simp; done) | (simp [*]; done) | (simp [bne_nil_, beq_nil_]; done)), H', ⟨by first | omega | exact Nat.le_refl _⟩, ⟨kb BK113.out⟩, ⟨bp HB.out⟩⟩
    · replace c5 := Bool.eq_false_iff.mpr c5
      subst c5
      have H1 : (if a0_0 = 5 then (spec_CommandValid.j0 k (a0_1.toList != ([] : List UInt8)) a0_0 a0_1 a0_2 a0_3) else (spec_CommandValid.j0 k true a0_0 a0_1 a0_2 a0_3)) = some r := by rw [if_neg (show ¬ (false = true) by decide)] at H; exact H
      clear H
      have H := H1
      clear H1
      by_cases c7 : a0_0 = 5
      · rw [if_pos c7] at H
        have c7b0 : (a0_0 == 5) = true := beq_iff_eq.mpr c7
        have c7b1 : (a0_0 != 5) = false := bne_eq_false_iff_eq.mpr c7
        clear c7
        (first | rw [c7b0] | (simp only [i64_w, i32_w]; rw [c7b0]) | skip)
        have H' := Aside0.mk H
        clear H
        obtain ⟨hcz8_0, hcz8_1, hcz8_2, hcz8_3, hfz8_0, hfz8_1, hfz8_2, hfz8_3⟩ := cl4 BK113
        go_wp2_with (first | ((with_reducible refine gate_callee (f := 113) rfl ?_); refine gsl (some 5) rfl Try.func113 #[.string a0_1] rfl ?_; (with_reducible refine (spec_KeyValid.calls k a0_1 false _ A4.out).mono ?_); rintro e w' ⟨rfl, ⟨nd, rfl⟩⟩; refine ⟨_, rfl, ?_⟩))
        go_meet
        case rel => exact ⟨_, ((a0_1.toList != ([] : List UInt8))), (by first | rfl | (simp; done) | (simp [*]; done) | (simp [bne_nil_, beq_nil_]; done)), H', ⟨by first | omega | exact Nat.le_refl _⟩, ⟨kb BK113.out⟩, ⟨bp HB.out⟩⟩
      · rw [if_neg c7] at H
        have c7b0 : (a0_0 == 5) = false := beq_eq_false_iff_ne.mpr c7
        have c7b1 : (a0_0 != 5) = true := bne_iff_ne.mpr c7
        (first | rw [c7b0] | (simp only [i64_w, i32_w]; rw [c7b0]) | skip)
        have H' := Aside0.mk H
        clear H
        obtain ⟨hcz9_0, hcz9_1, hcz9_2, hcz9_3, hfz9_0, hfz9_1, hfz9_2, hfz9_3⟩ := cl4 BK113
        go_wp2_with (first | ((with_reducible refine gate_callee (f := 113) rfl ?_); refine gsl (some 5) rfl Try.func113 #[.string a0_1] rfl ?_; (with_reducible refine (spec_KeyValid.calls k a0_1 false _ A4.out).mono ?_); rintro e w' ⟨rfl, ⟨nd, rfl⟩⟩; refine ⟨_, rfl, ?_⟩))
        go_meet
        case rel => exact ⟨_, (true), (by first | rfl | (simp; done) | (simp [*]; done) | (simp [bne_nil_, beq_nil_]; done)), H', ⟨by first | omega | exact Nat.le_refl _⟩, ⟨kb BK113.out⟩, ⟨bp HB.out⟩⟩
  case rest =>
    clear HC2
    try clear c1
    try clear p2
    try clear c5
    try clear c7
    try clear c7b0
    try clear c7b1
    try clear hcz6_0
    try clear hcz6_1
    try clear hcz6_2
    try clear hcz6_3
    try clear hcz8_0
    try clear hcz8_1
    try clear hcz8_2
    try clear hcz8_3
    try clear hcz9_0
    try clear hcz9_1
    try clear hcz9_2
    try clear hcz9_3
    try clear hfz6_0
    try clear hfz6_1
    try clear hfz6_2
    try clear hfz6_3
    try clear hfz8_0
    try clear hfz8_1
    try clear hfz8_2
    try clear hfz8_3
    try clear hfz9_0
    try clear hfz9_1
    try clear hfz9_2
    try clear hfz9_3
    obtain ⟨kq, x16_1, rfl, HA, HJ1, BK113, HB⟩ := hcut
    cases kq with
    | zero => exact absurd HA.out (by simp [spec_CommandValid.j0])
    | succ kj1 =>
      have H := HA.out
      clear HA
      simp only [spec_CommandValid.j0] at H
      by_cases c10 : x16_1 = true
      · subst c10
        have H1 : (some false) = some r := by rw [if_pos rfl] at H; exact H
        clear H
        have H := H1
        clear H1
        obtain rfl := Option.some.inj H
        go_wp2
        go_ret
        exact ⟨fe, bp HB.out⟩
      · replace c10 := Bool.eq_false_iff.mpr c10
        subst c10
        have H1 : (if a0_0 = 1 then (spec_CommandValid.j1 kj1 a0_0 (a0_0 == 1) a0_0 a0_1 a0_2 a0_3) else (if a0_0 = 3 then (spec_CommandValid.j1 kj1 a0_0 (a0_0 == 3) a0_0 a0_1 a0_2 a0_3) else (spec_CommandValid.j1 kj1 a0_0 (a0_0 == 5) a0_0 a0_1 a0_2 a0_3))) = some r := by rw [if_neg (show ¬ (false = true) by decide)] at H; exact H
        clear H
        have H := H1
        clear H1
        have HC11 := Aside0.mk H
        clear H
        obtain ⟨hcz12_0, hcz12_1, hcz12_2, hcz12_3, hfz12_0, hfz12_1, hfz12_2, hfz12_3⟩ := cl4 BK113
        go_upto_if 19 with (fail)
        go_cut [19] (fun v19 wc => ∃ (kq : Nat) (x19_10 : Bool), v19 = .bool x19_10 ∧ Aside0 (spec_CommandValid.j1 kq a0_0 x19_10 a0_0 a0_1 a0_2 a0_3 = some r) ∧ Aside0 (kq ≤ kj1) ∧ Aside0 (wc.heap[gb113]? = some (.cells #[.int .i64 a0_0, .string a0_1, .int .i64 a0_2, .int .i64 a0_3] 40 (0, 0))) ∧ Aside0 (Below w.heap.size w wc))
        case first =>
          have H := HC11.out
          clear HC11
          by_cases c13 : a0_0 = 1
          · rw [if_pos c13] at H
            have c13b0 : (a0_0 == 1) = true := beq_iff_eq.mpr c13
            have c13b1 : (a0_0 != 1) = false := bne_eq_false_iff_eq.mpr c13
            clear c13
            (first | rw [c13b0] | (simp only [i64_w, i32_w]; rw [c13b0]) | skip)
            have H' := Aside0.mk H
            clear H
            go_wp2
            go_meet
            case rel => exact ⟨_, ((a0_0 == 1)), (by first | rfl | (simp; done) | (simp [*]; done) | (simp [bne_nil_, beq_nil_]; done)), H', ⟨by have := HJ1.out; first | omega | exact Nat.le_refl _⟩, ⟨kb BK113.out⟩, ⟨bp HB.out⟩⟩
          · rw [if_neg c13] at H
            have c13b0 : (a0_0 == 1) = false := beq_eq_false_iff_ne.mpr c13
            have c13b1 : (a0_0 != 1) = true := bne_iff_ne.mpr c13
            (first | rw [c13b0] | (simp only [i64_w, i32_w]; rw [c13b0]) | skip)
            by_cases c14 : a0_0 = 3
            · rw [if_pos c14] at H
              have c14b0 : (a0_0 == 3) = true := beq_iff_eq.mpr c14
              have c14b1 : (a0_0 != 3) = false := bne_eq_false_iff_eq.mpr c14
              clear c14
              have H' := Aside0.mk H
              clear H
              go_wp2
              go_meet
              case rel => exact ⟨_, ((a0_0 == 3)), (by first | rfl | (simp; done) | (simp [*]; done) | (simp [bne_nil_, beq_nil_]; done)), H', ⟨by have := HJ1.out; first | omega | exact Nat.le_refl _⟩, ⟨kb BK113.out⟩, ⟨bp HB.out⟩⟩
            · rw [if_neg c14] at H
              have c14b0 : (a0_0 == 3) = false := beq_eq_false_iff_ne.mpr c14
              have c14b1 : (a0_0 != 3) = true := bne_iff_ne.mpr c14
              have H' := Aside0.mk H
              clear H
              go_wp2
              go_meet
              case rel => exact ⟨_, ((a0_0 == 5)), (by first | rfl | (simp; done) | (simp [*]; done) | (simp [bne_nil_, beq_nil_]; done)), H', ⟨by have := HJ1.out; first | omega | exact Nat.le_refl _⟩, ⟨kb BK113.out⟩, ⟨bp HB.out⟩⟩
        case rest =>
          clear HC11
          try clear c1
          try clear p2
          try clear c5
          try clear p6
          try clear c7
          try clear c7b0
          try clear c7b1
          try clear c10
          try clear c11
          try clear c13
          try clear c13b0
          try clear c13b1
          try clear c14
          try clear c14b0
          try clear c14b1
          try clear hcz12_0
          try clear hcz12_1
          try clear hcz12_2
          try clear hcz12_3
          try clear hcz6_0
          try clear hcz6_1
          try clear hcz6_2
          try clear hcz6_3
          try clear hcz8_0
          try clear hcz8_1
          try clear hcz8_2
          try clear hcz8_3
          try clear hcz9_0
          try clear hcz9_1
          try clear hcz9_2
          try clear hcz9_3
          try clear hfz12_0
          try clear hfz12_1
          try clear hfz12_2
          try clear hfz12_3
          try clear hfz6_0
          try clear hfz6_1
          try clear hfz6_2
          try clear hfz6_3
          try clear hfz8_0
          try clear hfz8_1
          try clear hfz8_2
          try clear hfz8_3
          try clear hfz9_0
          try clear hfz9_1
          try clear hfz9_2
          try clear hfz9_3
          try clear p2
          obtain ⟨kq, x19_10, rfl, HA, HJ10, BK113, HB⟩ := hcut
          cases kq with
          | zero => exact absurd HA.out (by simp [spec_CommandValid.j1])
          | succ kj10 =>
            have H := HA.out
            clear HA
            simp only [spec_CommandValid.j1] at H
            by_cases c15 : x19_10 = true
            · subst c15
              have H1 : (if a0_2 = 0 then (some (a0_3 == 0)) else (some false)) = some r := by rw [if_pos rfl] at H; exact H
              clear H
              have H := H1
              clear H1
              by_cases c16 : a0_2 = 0
              · rw [if_pos c16] at H
                have c16b0 : (a0_2 == 0) = true := beq_iff_eq.mpr c16
                have c16b1 : (a0_2 != 0) = false := bne_eq_false_iff_eq.mpr c16
                clear c16
                obtain rfl := Option.some.inj H
                obtain ⟨hcz17_0, hcz17_1, hcz17_2, hcz17_3, hfz17_0, hfz17_1, hfz17_2, hfz17_3⟩ := cl4 BK113
                go_wp2
                go_ret
                exact ⟨fe, bp HB.out⟩
              · rw [if_neg c16] at H
                have c16b0 : (a0_2 == 0) = false := beq_eq_false_iff_ne.mpr c16
                have c16b1 : (a0_2 != 0) = true := bne_iff_ne.mpr c16
                obtain rfl := Option.some.inj H
                obtain ⟨hcz18_0, hcz18_1, hcz18_2, hcz18_3, hfz18_0, hfz18_1, hfz18_2, hfz18_3⟩ := cl4 BK113
                go_wp2
                go_ret
                exact ⟨fe, bp HB.out⟩
            · replace c15 := Bool.eq_false_iff.mpr c15
              subst c15
              have H1 : (if a0_0 = 2 then ((spec_l1In.f a0_2 0 999).bind fun t115 => (if t115 = true then (some (a0_3 == 0)) else (some false))) else (if a0_0 = 4 then ((spec_l1In.f a0_2 0 999).bind fun t116 => (if t116 = true then ((spec_l1In.f a0_3 (-1) 999).bind fun t117 => (some t117)) else (some false))) else (some false))) = some r := by rw [if_neg (show ¬ (false = true) by decide)] at H; exact H
              clear H
              have H := H1
              clear H1
              by_cases c19 : a0_0 = 2
              · rw [if_pos c19] at H
                have c19b0 : (a0_0 == 2) = true := beq_iff_eq.mpr c19
                have c19b1 : (a0_0 != 2) = false := bne_eq_false_iff_eq.mpr c19
                clear c19
                replace H := Option.bind_eq_some_iff.mp H
                obtain ⟨t115, A200, H⟩ := H
                replace H : (if t115 = true then (some (a0_3 == 0)) else (some false)) = some r := H
                have A20 := Aside0.mk A200
                clear A200
                by_cases c21 : t115 = true
                · subst c21
                  have H1 : (some (a0_3 == 0)) = some r := by rw [if_pos rfl] at H; exact H
                  clear H
                  have H := H1
                  clear H1
                  obtain rfl := Option.some.inj H
                  obtain ⟨hcz22_0, hcz22_1, hcz22_2, hcz22_3, hfz22_0, hfz22_1, hfz22_2, hfz22_3⟩ := cl4 BK113
                  go_wp2_with (first | ((with_reducible refine gate_callee (f := 112) rfl ?_); refine gsl (some 35) rfl Try.func112 #[.int .i64 a0_2, .int .i64 0, .int .i64 999] rfl ?_; (with_reducible refine (spec_l1In.calls a0_2 0 999 true _ A20.out).mono ?_); rintro e w' ⟨rfl, ⟨nd, rfl⟩⟩; refine ⟨_, rfl, ?_⟩))
                  go_ret
                  exact ⟨fe, bp HB.out⟩
                · replace c21 := Bool.eq_false_iff.mpr c21
                  subst c21
                  have H1 : (some false) = some r := by rw [if_neg (show ¬ (false = true) by decide)] at H; exact H
                  clear H
                  have H := H1
                  clear H1
                  obtain rfl := Option.some.inj H
                  obtain ⟨hcz23_0, hcz23_1, hcz23_2, hcz23_3, hfz23_0, hfz23_1, hfz23_2, hfz23_3⟩ := cl4 BK113
                  go_wp2_with (first | ((with_reducible refine gate_callee (f := 112) rfl ?_); refine gsl (some 35) rfl Try.func112 #[.int .i64 a0_2, .int .i64 0, .int .i64 999] rfl ?_; (with_reducible refine (spec_l1In.calls a0_2 0 999 false _ A20.out).mono ?_); rintro e w' ⟨rfl, ⟨nd, rfl⟩⟩; refine ⟨_, rfl, ?_⟩))
                  go_ret
                  exact ⟨fe, bp HB.out⟩
              · rw [if_neg c19] at H
                have c19b0 : (a0_0 == 2) = false := beq_eq_false_iff_ne.mpr c19
                have c19b1 : (a0_0 != 2) = true := bne_iff_ne.mpr c19
                by_cases c24 : a0_0 = 4
                · rw [if_pos c24] at H
                  have c24b0 : (a0_0 == 4) = true := beq_iff_eq.mpr c24
                  have c24b1 : (a0_0 != 4) = false := bne_eq_false_iff_eq.mpr c24
                  clear c24
                  replace H := Option.bind_eq_some_iff.mp H
                  obtain ⟨t116, A250, H⟩ := H
                  replace H : (if t116 = true then ((spec_l1In.f a0_3 (-1) 999).bind fun t117 => (some t117)) else (some false)) = some r := H
                  have A25 := Aside0.mk A250
                  clear A250
                  by_cases c26 : t116 = true
                  · subst c26
                    have H1 : ((spec_l1In.f a0_3 (-1) 999).bind fun t117 => (some t117)) = some r := by rw [if_pos rfl] at H; exact H
                    clear H
                    have H := H1
                    clear H1
                    replace H := Option.bind_eq_some_iff.mp H
                    obtain ⟨t117, A270, H⟩ := H
                    replace H : (some t117) = some r := H
                    have A27 := Aside0.mk A270
                    clear A270
                    obtain rfl := Option.some.inj H
                    obtain ⟨hcz28_0, hcz28_1, hcz28_2, hcz28_3, hfz28_0, hfz28_1, hfz28_2, hfz28_3⟩ := cl4 BK113
                    go_wp2_with (first | ((with_reducible refine gate_callee (f := 112) rfl ?_); refine gsl (some 45) rfl Try.func112 #[.int .i64 a0_2, .int .i64 0, .int .i64 999] rfl ?_; (with_reducible refine (spec_l1In.calls a0_2 0 999 true _ A25.out).mono ?_); rintro e w' ⟨rfl, ⟨nd, rfl⟩⟩; refine ⟨_, rfl, ?_⟩) | (go_at_call 112; (with_reducible refine (spec_l1In.calls a0_3 (-1) 999 t117 _ A27.out).mono ?_); rintro e w' ⟨rfl, ⟨nd, rfl⟩⟩))
                    go_ret
                    exact ⟨fe, bp HB.out⟩
                  · replace c26 := Bool.eq_false_iff.mpr c26
                    subst c26
                    have H1 : (some false) = some r := by rw [if_neg (show ¬ (false = true) by decide)] at H; exact H
                    clear H
                    have H := H1
                    clear H1
                    obtain rfl := Option.some.inj H
                    obtain ⟨hcz29_0, hcz29_1, hcz29_2, hcz29_3, hfz29_0, hfz29_1, hfz29_2, hfz29_3⟩ := cl4 BK113
                    go_wp2_with (first | ((with_reducible refine gate_callee (f := 112) rfl ?_); refine gsl (some 45) rfl Try.func112 #[.int .i64 a0_2, .int .i64 0, .int .i64 999] rfl ?_; (with_reducible refine (spec_l1In.calls a0_2 0 999 false _ A25.out).mono ?_); rintro e w' ⟨rfl, ⟨nd, rfl⟩⟩; refine ⟨_, rfl, ?_⟩))
                    go_ret
                    exact ⟨fe, bp HB.out⟩
                · rw [if_neg c24] at H
                  have c24b0 : (a0_0 == 4) = false := beq_eq_false_iff_ne.mpr c24
                  have c24b1 : (a0_0 != 4) = true := bne_iff_ne.mpr c24
                  obtain rfl := Option.some.inj H
                  go_wp2
                  go_ret
                  exact ⟨fe, bp HB.out⟩

/-! ### spec_l25Wish: function 133 -/
def spec_l25Wish.f (k : Nat) (a0_0 : Int) (a0_1 : ByteArray) (a0_2 : Int) (a0_3 : Int) : Option (Bool) := (spec_CommandValid.f k a0_0 a0_1 a0_2 a0_3).bind fun t119 => (if t119 = true then (some (a0_0 != 5)) else (some false))
theorem spec_l25Wish.mono : ∀ a0 a1 a2 a3 k, LeO (spec_l25Wish.f k a0 a1 a2 a3) (spec_l25Wish.f (k + 1) a0 a1 a2 a3) := by
  intro a0 a1 a2 a3 k
  unfold spec_l25Wish.f
  repeat' first
      | (with_reducible exact spec_CommandValid.mono _ _ _ _ _)
      | (with_reducible exact LeO.refl _)
      | (with_reducible exact LeO.none _)
      | (with_reducible refine LeO.ite ?_ ?_)
      | (with_reducible refine LeO.bind ?_ (fun _ => ?_))
      | exact spec_CommandValid.mono _ _ _ _ _
      | exact LeO.none _
      | refine LeO.ite ?_ ?_
      | refine LeO.bind ?_ (fun _ => ?_)
set_option maxHeartbeats 8000000 in
set_option maxRecDepth 100000 in
theorem spec_l25Wish.calls (k : Nat) (a0_0 : Int) (a0_1 : ByteArray) (a0_2 : Int) (a0_3 : Int) (r : Bool) (w : World) (h : spec_l25Wish.f k a0_0 a0_1 a0_2 a0_3 = some r) :
    Calls Try.prog 133 #[.agg #[.int .i64 a0_0, .string a0_1, .int .i64 a0_2, .int .i64 a0_3]] w fun e w' => e = .returned (.bool r) ∧ Below w.heap.size w w' := by
  have hu40 := Try.underlying40
  have HB := Aside0.mk (Below.refl w.heap.size w)
  have H : ((spec_CommandValid.f k a0_0 a0_1 a0_2 a0_3).bind fun t119 => (if t119 = true then (some (a0_0 != 5)) else (some false))) = some r := h
  clear h
  replace H := Option.bind_eq_some_iff.mp H
  obtain ⟨t119, A20, H⟩ := H
  replace H : (if t119 = true then (some (a0_0 != 5)) else (some false)) = some r := H
  have A2 := Aside0.mk A20
  clear A20
  by_cases c3 : t119 = true
  · subst c3
    have H1 : (some (a0_0 != 5)) = some r := by rw [if_pos rfl] at H; exact H
    clear H
    have H := H1
    clear H1
    obtain rfl := Option.some.inj H
    go_enter Try.func133, Try.ntmps133
    go_wp2_with (first | ((with_reducible refine gate_dst (N := 1) rfl ?_); refine bxe (N := 1) (cs := #[.int .i64 a0_0, .string a0_1, .int .i64 a0_2, .int .i64 a0_3]) (t := 40) ?_; intro gb118 hg w4 hbox hb; have BK118 := Aside0.mk (hbox); have GW118 := an2 HB hg; have GE118 := an2 HB hg; replace HB := an0 HB hb; clear hb hbox hg; obtain ⟨hcz5_0, hcz5_1, hcz5_2, hcz5_3, hfz5_0, hfz5_1, hfz5_2, hfz5_3⟩ := cl4 BK118) | ((with_reducible refine gate_callee (f := 160) rfl ?_); refine gsl (some 4) rfl Try.func160 #[.agg #[.int .i64 a0_0, .string a0_1, .int .i64 a0_2, .int .i64 a0_3]] rfl ?_; (with_reducible refine (spec_CommandValid.calls k a0_0 a0_1 a0_2 a0_3 true _ A2.out).mono ?_); rintro e w6 ⟨rfl, hb⟩; refine ⟨_, rfl, ?_⟩; replace BK118 := an1 BK118 hb; replace HB := an0 HB hb; (try clear hb); (try clear hb2); (try clear hk); (try clear hi); obtain ⟨hcz7_0, hcz7_1, hcz7_2, hcz7_3, hfz7_0, hfz7_1, hfz7_2, hfz7_3⟩ := cl4 BK118))
    go_ret
    exact ⟨fe, bp HB.out⟩
  · replace c3 := Bool.eq_false_iff.mpr c3
    subst c3
    have H1 : (some false) = some r := by rw [if_neg (show ¬ (false = true) by decide)] at H; exact H
    clear H
    have H := H1
    clear H1
    obtain rfl := Option.some.inj H
    go_enter Try.func133, Try.ntmps133
    go_wp2_with (first | ((with_reducible refine gate_dst (N := 1) rfl ?_); refine bxe (N := 1) (cs := #[.int .i64 a0_0, .string a0_1, .int .i64 a0_2, .int .i64 a0_3]) (t := 40) ?_; intro gb118 hg w8 hbox hb; have BK118 := Aside0.mk (hbox); have GW118 := an2 HB hg; have GE118 := an2 HB hg; replace HB := an0 HB hb; clear hb hbox hg; obtain ⟨hcz9_0, hcz9_1, hcz9_2, hcz9_3, hfz9_0, hfz9_1, hfz9_2, hfz9_3⟩ := cl4 BK118) | ((with_reducible refine gate_callee (f := 160) rfl ?_); refine gsl (some 4) rfl Try.func160 #[.agg #[.int .i64 a0_0, .string a0_1, .int .i64 a0_2, .int .i64 a0_3]] rfl ?_; (with_reducible refine (spec_CommandValid.calls k a0_0 a0_1 a0_2 a0_3 false _ A2.out).mono ?_); rintro e w10 ⟨rfl, hb⟩; refine ⟨_, rfl, ?_⟩; replace BK118 := an1 BK118 hb; replace HB := an0 HB hb; (try clear hb); (try clear hb2); (try clear hk); (try clear hi)))
    go_ret
    exact ⟨fe, bp HB.out⟩

/-! ### spec_ResultValid: function 82 -/
def spec_ResultValid.f (k : Nat) (a0_0 : Int) (a0_1 : Int) (a0_2 : Int) (a0_3 : ByteArray) (a0_4 : Int) (a0_5 : Int) (a0_6 : Int) (a0_7 : Int) (a0_8 : Int) : Option (Bool) := (spec_l1In.f a0_0 1 3).bind fun t121 => (if t121 = true then ((spec_l1In.f a0_1 1 999).bind fun t122 => (if t122 = true then ((spec_l25Wish.f k a0_2 a0_3 a0_4 a0_5).bind fun t123 => (if t123 = true then ((spec_l1In.f a0_6 (-4) 999).bind fun t124 => (if t124 = true then ((spec_l1In.f a0_8 0 200).bind fun t125 => (if t125 = true then ((spec_l1In.f a0_7 0 a0_8).bind fun t126 => (some t126)) else (some false))) else (some false))) else (some false))) else (some false))) else (some false))
theorem spec_ResultValid.mono : ∀ a0 a1 a2 a3 a4 a5 a6 a7 a8 k, LeO (spec_ResultValid.f k a0 a1 a2 a3 a4 a5 a6 a7 a8) (spec_ResultValid.f (k + 1) a0 a1 a2 a3 a4 a5 a6 a7 a8) := by
  intro a0 a1 a2 a3 a4 a5 a6 a7 a8 k
  unfold spec_ResultValid.f
  repeat' first
      | (with_reducible exact spec_l25Wish.mono _ _ _ _ _)
      | (with_reducible exact LeO.refl _)
      | (with_reducible exact LeO.none _)
      | (with_reducible refine LeO.ite ?_ ?_)
      | (with_reducible refine LeO.bind ?_ (fun _ => ?_))
      | exact spec_l25Wish.mono _ _ _ _ _
      | exact LeO.none _
      | refine LeO.ite ?_ ?_
      | refine LeO.bind ?_ (fun _ => ?_)
set_option maxHeartbeats 8000000 in
set_option maxRecDepth 100000 in
theorem spec_ResultValid.calls (k : Nat) (a0_0 : Int) (a0_1 : Int) (a0_2 : Int) (a0_3 : ByteArray) (a0_4 : Int) (a0_5 : Int) (a0_6 : Int) (a0_7 : Int) (a0_8 : Int) (r : Bool) (w : World) (h : spec_ResultValid.f k a0_0 a0_1 a0_2 a0_3 a0_4 a0_5 a0_6 a0_7 a0_8 = some r) :
    Calls Try.prog 82 #[.agg #[.int .i64 a0_0, .int .i64 a0_1, .int .i64 a0_2, .string a0_3, .int .i64 a0_4, .int .i64 a0_5, .int .i64 a0_6, .int .i64 a0_7, .int .i64 a0_8]] w fun e w' => e = .returned (.bool r) ∧ Below w.heap.size w w' := by
  have hu42 := Try.underlying42
  have hu40 := Try.underlying40
  have HB := Aside0.mk (Below.refl w.heap.size w)
  have H : ((spec_l1In.f a0_0 1 3).bind fun t121 => (if t121 = true then ((spec_l1In.f a0_1 1 999).bind fun t122 => (if t122 = true then ((spec_l25Wish.f k a0_2 a0_3 a0_4 a0_5).bind fun t123 => (if t123 = true then ((spec_l1In.f a0_6 (-4) 999).bind fun t124 => (if t124 = true then ((spec_l1In.f a0_8 0 200).bind fun t125 => (if t125 = true then ((spec_l1In.f a0_7 0 a0_8).bind fun t126 => (some t126)) else (some false))) else (some false))) else (some false))) else (some false))) else (some false))) = some r := h
  clear h
  replace H := Option.bind_eq_some_iff.mp H
  obtain ⟨t121, A20, H⟩ := H
  replace H : (if t121 = true then ((spec_l1In.f a0_1 1 999).bind fun t122 => (if t122 = true then ((spec_l25Wish.f k a0_2 a0_3 a0_4 a0_5).bind fun t123 => (if t123 = true then ((spec_l1In.f a0_6 (-4) 999).bind fun t124 => (if t124 = true then ((spec_l1In.f a0_8 0 200).bind fun t125 => (if t125 = true then ((spec_l1In.f a0_7 0 a0_8).bind fun t126 => (some t126)) else (some false))) else (some false))) else (some false))) else (some false))) else (some false)) = some r := H
  have A2 := Aside0.mk A20
  clear A20
  by_cases c3 : t121 = true
  · subst c3
    have H1 : ((spec_l1In.f a0_1 1 999).bind fun t122 => (if t122 = true then ((spec_l25Wish.f k a0_2 a0_3 a0_4 a0_5).bind fun t123 => (if t123 = true then ((spec_l1In.f a0_6 (-4) 999).bind fun t124 => (if t124 = true then ((spec_l1In.f a0_8 0 200).bind fun t125 => (if t125 = true then ((spec_l1In.f a0_7 0 a0_8).bind fun t126 => (some t126)) else (some false))) else (some false))) else (some false))) else (some false))) = some r := by rw [if_pos rfl] at H; exact H
    clear H
    have H := H1
    clear H1
    replace H := Option.bind_eq_some_iff.mp H
    obtain ⟨t122, A40, H⟩ := H
    replace H : (if t122 = true then ((spec_l25Wish.f k a0_2 a0_3 a0_4 a0_5).bind fun t123 => (if t123 = true then ((spec_l1In.f a0_6 (-4) 999).bind fun t124 => (if t124 = true then ((spec_l1In.f a0_8 0 200).bind fun t125 => (if t125 = true then ((spec_l1In.f a0_7 0 a0_8).bind fun t126 => (some t126)) else (some false))) else (some false))) else (some false))) else (some false)) = some r := H
    have A4 := Aside0.mk A40
    clear A40
    by_cases c5 : t122 = true
    · subst c5
      have H1 : ((spec_l25Wish.f k a0_2 a0_3 a0_4 a0_5).bind fun t123 => (if t123 = true then ((spec_l1In.f a0_6 (-4) 999).bind fun t124 => (if t124 = true then ((spec_l1In.f a0_8 0 200).bind fun t125 => (if t125 = true then ((spec_l1In.f a0_7 0 a0_8).bind fun t126 => (some t126)) else (some false))) else (some false))) else (some false))) = some r := by rw [if_pos rfl] at H; exact H
      clear H
      have H := H1
      clear H1
      replace H := Option.bind_eq_some_iff.mp H
      obtain ⟨t123, A60, H⟩ := H
      replace H : (if t123 = true then ((spec_l1In.f a0_6 (-4) 999).bind fun t124 => (if t124 = true then ((spec_l1In.f a0_8 0 200).bind fun t125 => (if t125 = true then ((spec_l1In.f a0_7 0 a0_8).bind fun t126 => (some t126)) else (some false))) else (some false))) else (some false)) = some r := H
      have A6 := Aside0.mk A60
      clear A60
      by_cases c7 : t123 = true
      · subst c7
        have H1 : ((spec_l1In.f a0_6 (-4) 999).bind fun t124 => (if t124 = true then ((spec_l1In.f a0_8 0 200).bind fun t125 => (if t125 = true then ((spec_l1In.f a0_7 0 a0_8).bind fun t126 => (some t126)) else (some false))) else (some false))) = some r := by rw [if_pos rfl] at H; exact H
        clear H
        have H := H1
        clear H1
        replace H := Option.bind_eq_some_iff.mp H
        obtain ⟨t124, A80, H⟩ := H
        replace H : (if t124 = true then ((spec_l1In.f a0_8 0 200).bind fun t125 => (if t125 = true then ((spec_l1In.f a0_7 0 a0_8).bind fun t126 => (some t126)) else (some false))) else (some false)) = some r := H
        have A8 := Aside0.mk A80
        clear A80
        by_cases c9 : t124 = true
        · subst c9
          have H1 : ((spec_l1In.f a0_8 0 200).bind fun t125 => (if t125 = true then ((spec_l1In.f a0_7 0 a0_8).bind fun t126 => (some t126)) else (some false))) = some r := by rw [if_pos rfl] at H; exact H
          clear H
          have H := H1
          clear H1
          replace H := Option.bind_eq_some_iff.mp H
          obtain ⟨t125, A100, H⟩ := H
          replace H : (if t125 = true then ((spec_l1In.f a0_7 0 a0_8).bind fun t126 => (some t126)) else (some false)) = some r := H
          have A10 := Aside0.mk A100
          clear A100
          by_cases c11 : t125 = true
          · subst c11
            have H1 : ((spec_l1In.f a0_7 0 a0_8).bind fun t126 => (some t126)) = some r := by rw [if_pos rfl] at H; exact H
            clear H
            have H := H1
            clear H1
            replace H := Option.bind_eq_some_iff.mp H
            obtain ⟨t126, A120, H⟩ := H
            replace H : (some t126) = some r := H
            have A12 := Aside0.mk A120
            clear A120
            obtain rfl := Option.some.inj H
            go_enter Try.func82, Try.ntmps82
            go_wp2_with (first | ((with_reducible refine gate_dst (N := 1) rfl ?_); refine bxe (N := 1) (cs := #[.int .i64 a0_0, .int .i64 a0_1, .int .i64 a0_2, .string a0_3, .int .i64 a0_4, .int .i64 a0_5, .int .i64 a0_6, .int .i64 a0_7, .int .i64 a0_8]) (t := 42) ?_; intro gb120 hg w13 hbox hb; have BK120 := Aside0.mk (hbox); have GW120 := an2 HB hg; have GE120 := an2 HB hg; replace HB := an0 HB hb; clear hb hbox hg; obtain ⟨hcz14_0, hcz14_1, hcz14_2, hcz14_3, hcz14_4, hcz14_5, hcz14_6, hcz14_7, hcz14_8, hfz14_0, hfz14_1, hfz14_2, hfz14_3, hfz14_4, hfz14_5, hfz14_6, hfz14_7, hfz14_8⟩ := cl9 BK120) | ((with_reducible refine gate_callee (f := 112) rfl ?_); refine gsl (some 5) rfl Try.func112 #[.int .i64 a0_0, .int .i64 1, .int .i64 3] rfl ?_; (with_reducible refine (spec_l1In.calls a0_0 1 3 true _ A2.out).mono ?_); rintro e w' ⟨rfl, ⟨nd, rfl⟩⟩; refine ⟨_, rfl, ?_⟩) | (go_at_call 112; (with_reducible refine (spec_l1In.calls a0_1 1 999 true _ A4.out).mono ?_); rintro e w' ⟨rfl, ⟨nd, rfl⟩⟩) | (go_at_call 133; (with_reducible refine (spec_l25Wish.calls k a0_2 a0_3 a0_4 a0_5 true _ A6.out).mono ?_); rintro e w15 ⟨rfl, hb⟩; replace BK120 := an1 BK120 hb; replace HB := an0 HB hb; (try clear hb); (try clear hb2); (try clear hk); (try clear hi); obtain ⟨hcz16_0, hcz16_1, hcz16_2, hcz16_3, hcz16_4, hcz16_5, hcz16_6, hcz16_7, hcz16_8, hfz16_0, hfz16_1, hfz16_2, hfz16_3, hfz16_4, hfz16_5, hfz16_6, hfz16_7, hfz16_8⟩ := cl9 BK120) | (go_at_call 112; (with_reducible refine (spec_l1In.calls a0_6 (-4) 999 true _ A8.out).mono ?_); rintro e w' ⟨rfl, ⟨nd, rfl⟩⟩) | (go_at_call 112; (with_reducible refine (spec_l1In.calls a0_8 0 200 true _ A10.out).mono ?_); rintro e w' ⟨rfl, ⟨nd, rfl⟩⟩) | (go_at_call 112; (with_reducible refine (spec_l1In.calls a0_7 0 a0_8 t126 _ A12.out).mono ?_); rintro e w' ⟨rfl, ⟨nd, rfl⟩⟩))
            go_ret
            exact ⟨fe, bp HB.out⟩
          · replace c11 := Bool.eq_false_iff.mpr c11
            subst c11
            have H1 : (some false) = some r := by rw [if_neg (show ¬ (false = true) by decide)] at H; exact H
            clear H
            have H := H1
            clear H1
            obtain rfl := Option.some.inj H
            go_enter Try.func82, Try.ntmps82
            go_wp2_with (first | ((with_reducible refine gate_dst (N := 1) rfl ?_); refine bxe (N := 1) (cs := #[.int .i64 a0_0, .int .i64 a0_1, .int .i64 a0_2, .string a0_3, .int .i64 a0_4, .int .i64 a0_5, .int .i64 a0_6, .int .i64 a0_7, .int .i64 a0_8]) (t := 42) ?_; intro gb120 hg w17 hbox hb; have BK120 := Aside0.mk (hbox); have GW120 := an2 HB hg; have GE120 := an2 HB hg; replace HB := an0 HB hb; clear hb hbox hg; obtain ⟨hcz18_0, hcz18_1, hcz18_2, hcz18_3, hcz18_4, hcz18_5, hcz18_6, hcz18_7, hcz18_8, hfz18_0, hfz18_1, hfz18_2, hfz18_3, hfz18_4, hfz18_5, hfz18_6, hfz18_7, hfz18_8⟩ := cl9 BK120) | ((with_reducible refine gate_callee (f := 112) rfl ?_); refine gsl (some 5) rfl Try.func112 #[.int .i64 a0_0, .int .i64 1, .int .i64 3] rfl ?_; (with_reducible refine (spec_l1In.calls a0_0 1 3 true _ A2.out).mono ?_); rintro e w' ⟨rfl, ⟨nd, rfl⟩⟩; refine ⟨_, rfl, ?_⟩) | (go_at_call 112; (with_reducible refine (spec_l1In.calls a0_1 1 999 true _ A4.out).mono ?_); rintro e w' ⟨rfl, ⟨nd, rfl⟩⟩) | (go_at_call 133; (with_reducible refine (spec_l25Wish.calls k a0_2 a0_3 a0_4 a0_5 true _ A6.out).mono ?_); rintro e w19 ⟨rfl, hb⟩; replace BK120 := an1 BK120 hb; replace HB := an0 HB hb; (try clear hb); (try clear hb2); (try clear hk); (try clear hi); obtain ⟨hcz20_0, hcz20_1, hcz20_2, hcz20_3, hcz20_4, hcz20_5, hcz20_6, hcz20_7, hcz20_8, hfz20_0, hfz20_1, hfz20_2, hfz20_3, hfz20_4, hfz20_5, hfz20_6, hfz20_7, hfz20_8⟩ := cl9 BK120) | (go_at_call 112; (with_reducible refine (spec_l1In.calls a0_6 (-4) 999 true _ A8.out).mono ?_); rintro e w' ⟨rfl, ⟨nd, rfl⟩⟩) | (go_at_call 112; (with_reducible refine (spec_l1In.calls a0_8 0 200 false _ A10.out).mono ?_); rintro e w' ⟨rfl, ⟨nd, rfl⟩⟩))
            go_ret
            exact ⟨fe, bp HB.out⟩
        · replace c9 := Bool.eq_false_iff.mpr c9
          subst c9
          have H1 : (some false) = some r := by rw [if_neg (show ¬ (false = true) by decide)] at H; exact H
          clear H
          have H := H1
          clear H1
          obtain rfl := Option.some.inj H
          go_enter Try.func82, Try.ntmps82
          go_wp2_with (first | ((with_reducible refine gate_dst (N := 1) rfl ?_); refine bxe (N := 1) (cs := #[.int .i64 a0_0, .int .i64 a0_1, .int .i64 a0_2, .string a0_3, .int .i64 a0_4, .int .i64 a0_5, .int .i64 a0_6, .int .i64 a0_7, .int .i64 a0_8]) (t := 42) ?_; intro gb120 hg w21 hbox hb; have BK120 := Aside0.mk (hbox); have GW120 := an2 HB hg; have GE120 := an2 HB hg; replace HB := an0 HB hb; clear hb hbox hg; obtain ⟨hcz22_0, hcz22_1, hcz22_2, hcz22_3, hcz22_4, hcz22_5, hcz22_6, hcz22_7, hcz22_8, hfz22_0, hfz22_1, hfz22_2, hfz22_3, hfz22_4, hfz22_5, hfz22_6, hfz22_7, hfz22_8⟩ := cl9 BK120) | ((with_reducible refine gate_callee (f := 112) rfl ?_); refine gsl (some 5) rfl Try.func112 #[.int .i64 a0_0, .int .i64 1, .int .i64 3] rfl ?_; (with_reducible refine (spec_l1In.calls a0_0 1 3 true _ A2.out).mono ?_); rintro e w' ⟨rfl, ⟨nd, rfl⟩⟩; refine ⟨_, rfl, ?_⟩) | (go_at_call 112; (with_reducible refine (spec_l1In.calls a0_1 1 999 true _ A4.out).mono ?_); rintro e w' ⟨rfl, ⟨nd, rfl⟩⟩) | (go_at_call 133; (with_reducible refine (spec_l25Wish.calls k a0_2 a0_3 a0_4 a0_5 true _ A6.out).mono ?_); rintro e w23 ⟨rfl, hb⟩; replace BK120 := an1 BK120 hb; replace HB := an0 HB hb; (try clear hb); (try clear hb2); (try clear hk); (try clear hi); obtain ⟨hcz24_0, hcz24_1, hcz24_2, hcz24_3, hcz24_4, hcz24_5, hcz24_6, hcz24_7, hcz24_8, hfz24_0, hfz24_1, hfz24_2, hfz24_3, hfz24_4, hfz24_5, hfz24_6, hfz24_7, hfz24_8⟩ := cl9 BK120) | (go_at_call 112; (with_reducible refine (spec_l1In.calls a0_6 (-4) 999 false _ A8.out).mono ?_); rintro e w' ⟨rfl, ⟨nd, rfl⟩⟩))
          go_ret
          exact ⟨fe, bp HB.out⟩
      · replace c7 := Bool.eq_false_iff.mpr c7
        subst c7
        have H1 : (some false) = some r := by rw [if_neg (show ¬ (false = true) by decide)] at H; exact H
        clear H
        have H := H1
        clear H1
        obtain rfl := Option.some.inj H
        go_enter Try.func82, Try.ntmps82
        go_wp2_with (first | ((with_reducible refine gate_dst (N := 1) rfl ?_); refine bxe (N := 1) (cs := #[.int .i64 a0_0, .int .i64 a0_1, .int .i64 a0_2, .string a0_3, .int .i64 a0_4, .int .i64 a0_5, .int .i64 a0_6, .int .i64 a0_7, .int .i64 a0_8]) (t := 42) ?_; intro gb120 hg w25 hbox hb; have BK120 := Aside0.mk (hbox); have GW120 := an2 HB hg; have GE120 := an2 HB hg; replace HB := an0 HB hb; clear hb hbox hg; obtain ⟨hcz26_0, hcz26_1, hcz26_2, hcz26_3, hcz26_4, hcz26_5, hcz26_6, hcz26_7, hcz26_8, hfz26_0, hfz26_1, hfz26_2, hfz26_3, hfz26_4, hfz26_5, hfz26_6, hfz26_7, hfz26_8⟩ := cl9 BK120) | ((with_reducible refine gate_callee (f := 112) rfl ?_); refine gsl (some 5) rfl Try.func112 #[.int .i64 a0_0, .int .i64 1, .int .i64 3] rfl ?_; (with_reducible refine (spec_l1In.calls a0_0 1 3 true _ A2.out).mono ?_); rintro e w' ⟨rfl, ⟨nd, rfl⟩⟩; refine ⟨_, rfl, ?_⟩) | (go_at_call 112; (with_reducible refine (spec_l1In.calls a0_1 1 999 true _ A4.out).mono ?_); rintro e w' ⟨rfl, ⟨nd, rfl⟩⟩) | (go_at_call 133; (with_reducible refine (spec_l25Wish.calls k a0_2 a0_3 a0_4 a0_5 false _ A6.out).mono ?_); rintro e w27 ⟨rfl, hb⟩; replace BK120 := an1 BK120 hb; replace HB := an0 HB hb; (try clear hb); (try clear hb2); (try clear hk); (try clear hi)))
        go_ret
        exact ⟨fe, bp HB.out⟩
    · replace c5 := Bool.eq_false_iff.mpr c5
      subst c5
      have H1 : (some false) = some r := by rw [if_neg (show ¬ (false = true) by decide)] at H; exact H
      clear H
      have H := H1
      clear H1
      obtain rfl := Option.some.inj H
      go_enter Try.func82, Try.ntmps82
      go_wp2_with (first | ((with_reducible refine gate_dst (N := 1) rfl ?_); refine bxe (N := 1) (cs := #[.int .i64 a0_0, .int .i64 a0_1, .int .i64 a0_2, .string a0_3, .int .i64 a0_4, .int .i64 a0_5, .int .i64 a0_6, .int .i64 a0_7, .int .i64 a0_8]) (t := 42) ?_; intro gb120 hg w28 hbox hb; have BK120 := Aside0.mk (hbox); have GW120 := an2 HB hg; have GE120 := an2 HB hg; replace HB := an0 HB hb; clear hb hbox hg; obtain ⟨hcz29_0, hcz29_1, hcz29_2, hcz29_3, hcz29_4, hcz29_5, hcz29_6, hcz29_7, hcz29_8, hfz29_0, hfz29_1, hfz29_2, hfz29_3, hfz29_4, hfz29_5, hfz29_6, hfz29_7, hfz29_8⟩ := cl9 BK120) | ((with_reducible refine gate_callee (f := 112) rfl ?_); refine gsl (some 5) rfl Try.func112 #[.int .i64 a0_0, .int .i64 1, .int .i64 3] rfl ?_; (with_reducible refine (spec_l1In.calls a0_0 1 3 true _ A2.out).mono ?_); rintro e w' ⟨rfl, ⟨nd, rfl⟩⟩; refine ⟨_, rfl, ?_⟩) | (go_at_call 112; (with_reducible refine (spec_l1In.calls a0_1 1 999 false _ A4.out).mono ?_); rintro e w' ⟨rfl, ⟨nd, rfl⟩⟩))
      go_ret
      exact ⟨fe, bp HB.out⟩
  · replace c3 := Bool.eq_false_iff.mpr c3
    subst c3
    have H1 : (some false) = some r := by rw [if_neg (show ¬ (false = true) by decide)] at H; exact H
    clear H
    have H := H1
    clear H1
    obtain rfl := Option.some.inj H
    go_enter Try.func82, Try.ntmps82
    go_wp2_with (first | ((with_reducible refine gate_dst (N := 1) rfl ?_); refine bxe (N := 1) (cs := #[.int .i64 a0_0, .int .i64 a0_1, .int .i64 a0_2, .string a0_3, .int .i64 a0_4, .int .i64 a0_5, .int .i64 a0_6, .int .i64 a0_7, .int .i64 a0_8]) (t := 42) ?_; intro gb120 hg w30 hbox hb; have BK120 := Aside0.mk (hbox); have GW120 := an2 HB hg; have GE120 := an2 HB hg; replace HB := an0 HB hb; clear hb hbox hg; obtain ⟨hcz31_0, hcz31_1, hcz31_2, hcz31_3, hcz31_4, hcz31_5, hcz31_6, hcz31_7, hcz31_8, hfz31_0, hfz31_1, hfz31_2, hfz31_3, hfz31_4, hfz31_5, hfz31_6, hfz31_7, hfz31_8⟩ := cl9 BK120) | ((with_reducible refine gate_callee (f := 112) rfl ?_); refine gsl (some 5) rfl Try.func112 #[.int .i64 a0_0, .int .i64 1, .int .i64 3] rfl ?_; (with_reducible refine (spec_l1In.calls a0_0 1 3 false _ A2.out).mono ?_); rintro e w' ⟨rfl, ⟨nd, rfl⟩⟩; refine ⟨_, rfl, ?_⟩))
    go_ret
    exact ⟨fe, bp HB.out⟩

/-! ### spec_EntryValid: function 152 -/
def spec_EntryValid.f (k : Nat) (a0_0 : Int) (a0_1 : Int) (a0_2 : Int) (a0_3 : ByteArray) (a0_4 : Int) (a0_5 : Int) : Option (Bool) := (spec_l1In.f a0_0 0 3).bind fun t128 => (if t128 = true then ((spec_l1In.f a0_1 1 999).bind fun t129 => (if t129 = true then ((spec_CommandValid.f k a0_2 a0_3 a0_4 a0_5).bind fun t130 => (some t130)) else (some false))) else (some false))
theorem spec_EntryValid.mono : ∀ a0 a1 a2 a3 a4 a5 k, LeO (spec_EntryValid.f k a0 a1 a2 a3 a4 a5) (spec_EntryValid.f (k + 1) a0 a1 a2 a3 a4 a5) := by
  intro a0 a1 a2 a3 a4 a5 k
  unfold spec_EntryValid.f
  repeat' first
      | (with_reducible exact spec_CommandValid.mono _ _ _ _ _)
      | (with_reducible exact LeO.refl _)
      | (with_reducible exact LeO.none _)
      | (with_reducible refine LeO.ite ?_ ?_)
      | (with_reducible refine LeO.bind ?_ (fun _ => ?_))
      | exact spec_CommandValid.mono _ _ _ _ _
      | exact LeO.none _
      | refine LeO.ite ?_ ?_
      | refine LeO.bind ?_ (fun _ => ?_)
set_option maxHeartbeats 8000000 in
set_option maxRecDepth 100000 in
theorem spec_EntryValid.calls (k : Nat) (a0_0 : Int) (a0_1 : Int) (a0_2 : Int) (a0_3 : ByteArray) (a0_4 : Int) (a0_5 : Int) (r : Bool) (w : World) (h : spec_EntryValid.f k a0_0 a0_1 a0_2 a0_3 a0_4 a0_5 = some r) :
    Calls Try.prog 152 #[.agg #[.int .i64 a0_0, .int .i64 a0_1, .int .i64 a0_2, .string a0_3, .int .i64 a0_4, .int .i64 a0_5]] w fun e w' => e = .returned (.bool r) ∧ Below w.heap.size w w' := by
  have hu138 := Try.underlying138
  have hu40 := Try.underlying40
  have HB := Aside0.mk (Below.refl w.heap.size w)
  have H : ((spec_l1In.f a0_0 0 3).bind fun t128 => (if t128 = true then ((spec_l1In.f a0_1 1 999).bind fun t129 => (if t129 = true then ((spec_CommandValid.f k a0_2 a0_3 a0_4 a0_5).bind fun t130 => (some t130)) else (some false))) else (some false))) = some r := h
  clear h
  replace H := Option.bind_eq_some_iff.mp H
  obtain ⟨t128, A20, H⟩ := H
  replace H : (if t128 = true then ((spec_l1In.f a0_1 1 999).bind fun t129 => (if t129 = true then ((spec_CommandValid.f k a0_2 a0_3 a0_4 a0_5).bind fun t130 => (some t130)) else (some false))) else (some false)) = some r := H
  have A2 := Aside0.mk A20
  clear A20
  by_cases c3 : t128 = true
  · subst c3
    have H1 : ((spec_l1In.f a0_1 1 999).bind fun t129 => (if t129 = true then ((spec_CommandValid.f k a0_2 a0_3 a0_4 a0_5).bind fun t130 => (some t130)) else (some false))) = some r := by rw [if_pos rfl] at H; exact H
    clear H
    have H := H1
    clear H1
    replace H := Option.bind_eq_some_iff.mp H
    obtain ⟨t129, A40, H⟩ := H
    replace H : (if t129 = true then ((spec_CommandValid.f k a0_2 a0_3 a0_4 a0_5).bind fun t130 => (some t130)) else (some false)) = some r := H
    have A4 := Aside0.mk A40
    clear A40
    by_cases c5 : t129 = true
    · subst c5
      have H1 : ((spec_CommandValid.f k a0_2 a0_3 a0_4 a0_5).bind fun t130 => (some t130)) = some r := by rw [if_pos rfl] at H; exact H
      clear H
      have H := H1
      clear H1
      replace H := Option.bind_eq_some_iff.mp H
      obtain ⟨t130, A60, H⟩ := H
      replace H : (some t130) = some r := H
      have A6 := Aside0.mk A60
      clear A60
      obtain rfl := Option.some.inj H
      go_enter Try.func152, Try.ntmps152
      go_wp2_with (first | ((with_reducible refine gate_dst (N := 1) rfl ?_); refine bxe (N := 1) (cs := #[.int .i64 a0_0, .int .i64 a0_1, .int .i64 a0_2, .string a0_3, .int .i64 a0_4, .int .i64 a0_5]) (t := 138) ?_; intro gb127 hg w7 hbox hb; have BK127 := Aside0.mk (hbox); have GW127 := an2 HB hg; have GE127 := an2 HB hg; replace HB := an0 HB hb; clear hb hbox hg; obtain ⟨hcz8_0, hcz8_1, hcz8_2, hcz8_3, hcz8_4, hcz8_5, hfz8_0, hfz8_1, hfz8_2, hfz8_3, hfz8_4, hfz8_5⟩ := cl6 BK127) | ((with_reducible refine gate_callee (f := 112) rfl ?_); refine gsl (some 5) rfl Try.func112 #[.int .i64 a0_0, .int .i64 0, .int .i64 3] rfl ?_; (with_reducible refine (spec_l1In.calls a0_0 0 3 true _ A2.out).mono ?_); rintro e w' ⟨rfl, ⟨nd, rfl⟩⟩; refine ⟨_, rfl, ?_⟩) | (go_at_call 112; (with_reducible refine (spec_l1In.calls a0_1 1 999 true _ A4.out).mono ?_); rintro e w' ⟨rfl, ⟨nd, rfl⟩⟩) | (go_at_call 160; (with_reducible refine (spec_CommandValid.calls k a0_2 a0_3 a0_4 a0_5 t130 _ A6.out).mono ?_); rintro e w9 ⟨rfl, hb⟩; replace BK127 := an1 BK127 hb; replace HB := an0 HB hb; (try clear hb); (try clear hb2); (try clear hk); (try clear hi)))
      go_ret
      exact ⟨fe, bp HB.out⟩
    · replace c5 := Bool.eq_false_iff.mpr c5
      subst c5
      have H1 : (some false) = some r := by rw [if_neg (show ¬ (false = true) by decide)] at H; exact H
      clear H
      have H := H1
      clear H1
      obtain rfl := Option.some.inj H
      go_enter Try.func152, Try.ntmps152
      go_wp2_with (first | ((with_reducible refine gate_dst (N := 1) rfl ?_); refine bxe (N := 1) (cs := #[.int .i64 a0_0, .int .i64 a0_1, .int .i64 a0_2, .string a0_3, .int .i64 a0_4, .int .i64 a0_5]) (t := 138) ?_; intro gb127 hg w10 hbox hb; have BK127 := Aside0.mk (hbox); have GW127 := an2 HB hg; have GE127 := an2 HB hg; replace HB := an0 HB hb; clear hb hbox hg; obtain ⟨hcz11_0, hcz11_1, hcz11_2, hcz11_3, hcz11_4, hcz11_5, hfz11_0, hfz11_1, hfz11_2, hfz11_3, hfz11_4, hfz11_5⟩ := cl6 BK127) | ((with_reducible refine gate_callee (f := 112) rfl ?_); refine gsl (some 5) rfl Try.func112 #[.int .i64 a0_0, .int .i64 0, .int .i64 3] rfl ?_; (with_reducible refine (spec_l1In.calls a0_0 0 3 true _ A2.out).mono ?_); rintro e w' ⟨rfl, ⟨nd, rfl⟩⟩; refine ⟨_, rfl, ?_⟩) | (go_at_call 112; (with_reducible refine (spec_l1In.calls a0_1 1 999 false _ A4.out).mono ?_); rintro e w' ⟨rfl, ⟨nd, rfl⟩⟩))
      go_ret
      exact ⟨fe, bp HB.out⟩
  · replace c3 := Bool.eq_false_iff.mpr c3
    subst c3
    have H1 : (some false) = some r := by rw [if_neg (show ¬ (false = true) by decide)] at H; exact H
    clear H
    have H := H1
    clear H1
    obtain rfl := Option.some.inj H
    go_enter Try.func152, Try.ntmps152
    go_wp2_with (first | ((with_reducible refine gate_dst (N := 1) rfl ?_); refine bxe (N := 1) (cs := #[.int .i64 a0_0, .int .i64 a0_1, .int .i64 a0_2, .string a0_3, .int .i64 a0_4, .int .i64 a0_5]) (t := 138) ?_; intro gb127 hg w12 hbox hb; have BK127 := Aside0.mk (hbox); have GW127 := an2 HB hg; have GE127 := an2 HB hg; replace HB := an0 HB hb; clear hb hbox hg; obtain ⟨hcz13_0, hcz13_1, hcz13_2, hcz13_3, hcz13_4, hcz13_5, hfz13_0, hfz13_1, hfz13_2, hfz13_3, hfz13_4, hfz13_5⟩ := cl6 BK127) | ((with_reducible refine gate_callee (f := 112) rfl ?_); refine gsl (some 5) rfl Try.func112 #[.int .i64 a0_0, .int .i64 0, .int .i64 3] rfl ?_; (with_reducible refine (spec_l1In.calls a0_0 0 3 false _ A2.out).mono ?_); rintro e w' ⟨rfl, ⟨nd, rfl⟩⟩; refine ⟨_, rfl, ?_⟩))
    go_ret
    exact ⟨fe, bp HB.out⟩

end Go.Proofs.Ytfeeifefmenlmaa.PFnExactRepliesRight
