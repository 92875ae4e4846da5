-- Written by a program of this session, in the manner of the kit's print (wip/pp.py): functions and their contracts.
import Derived.Test.YtfeeifefmenlmaaPFnRealTimex0
import Derived.Test.YtfeeifefmenlmaaPFnRealTimex2
import Derived.Test.YtfeeifefmenlmaaPFnRealTimex3
import Derived.Test.YtfeeifefmenlmaaPFnRealTimex4
namespace Go.Proofs.Ytfeeifefmenlmaa.PFnRealTime
open Go.RowKit Go.Proofs.YtfeeifefmenlmaaW.PrintWords Go.Proofs.YtfeeifefmenlmaaW.PrintLast Go.Proofs.YtfeeifefmenlmaaW.PrintMore
attribute [local go_sem] binOp_leq_str binOp_gtr_str binOp_geq_str max2_int min2_int max_two min_two max_three min_three max_four min_four   -- for this text's walks alone
set_option linter.unusedVariables false
set_option linter.unusedSimpArgs false

/-! ### spec_CommandValid: function 160 -/
mutual
def spec_CommandValid.j0 : Nat → Bool → Int → ByteArray → Int → Int → Option (Bool)
  | 0, _, _, _, _, _ => none
  | k + 1, x16, x258000, x258001, x258002, x258003 => if x16 = true then (some false) else (if x258000 = 1 then (spec_CommandValid.j1 k x258000 (x258000 == 1) x258000 x258001 x258002 x258003) else (if x258000 = 3 then (spec_CommandValid.j1 k x258000 (x258000 == 3) x258000 x258001 x258002 x258003) else (spec_CommandValid.j1 k x258000 (x258000 == 5) x258000 x258001 x258002 x258003)))
def spec_CommandValid.j1 : Nat → Int → Bool → Int → ByteArray → Int → Int → Option (Bool)
  | 0, _, _, _, _, _, _ => none
  | k + 1, x18, x19, x258000, x258001, x258002, x258003 => if x19 = true then (if x258002 = 0 then (some (x258003 == 0)) else (some false)) else (if x18 = 2 then ((spec_l1In.f x258002 0 999).bind fun t259 => (if t259 = true then (some (x258003 == 0)) else (some false))) else (if x18 = 4 then ((spec_l1In.f x258002 0 999).bind fun t260 => (if t260 = true then ((spec_l1In.f x258003 (-1) 999).bind fun t261 => (some t261)) else (some false))) else (some false)))
end
def spec_CommandValid.f (k : Nat) (a0_0 : Int) (a0_1 : ByteArray) (a0_2 : Int) (a0_3 : Int) : Option (Bool) := (spec_KeyValid.f k a0_1).bind fun t258 => (if t258 = true then (spec_CommandValid.j0 k false a0_0 a0_1 a0_2 a0_3) else (if a0_0 = 5 then (spec_CommandValid.j0 k (a0_1.toList != ([] : List UInt8)) a0_0 a0_1 a0_2 a0_3) else (spec_CommandValid.j0 k true a0_0 a0_1 a0_2 a0_3)))
theorem spec_CommandValid.mono_l : ∀ k, (∀ y0 y1 y2 y3 y4, LeO (spec_CommandValid.j0 k y0 y1 y2 y3 y4) (spec_CommandValid.j0 (k + 1) y0 y1 y2 y3 y4)) ∧ (∀ y0 y1 y2 y3 y4 y5, LeO (spec_CommandValid.j1 k y0 y1 y2 y3 y4 y5) (spec_CommandValid.j1 (k + 1) y0 y1 y2 y3 y4 y5))
  | 0 => ⟨fun _ _ _ _ _ r h => by simp [spec_CommandValid.j0] at h, fun _ _ _ _ _ _ r h => by simp [spec_CommandValid.j1] at h⟩
  | k + 1 => by
    obtain ⟨ih0, ih1⟩ := spec_CommandValid.mono_l k
    refine ⟨?_, ?_⟩
    · intro y0 y1 y2 y3 y4
      unfold spec_CommandValid.j0
      repeat' first
      | (with_reducible exact ih0 _ _ _ _ _)
      | (with_reducible exact ih1 _ _ _ _ _ _)
      | (with_reducible exact spec_KeyValid.mono _ _)
      | (with_reducible exact LeO.refl _)
      | (with_reducible exact LeO.none _)
      | (with_reducible refine LeO.ite ?_ ?_)
      | (with_reducible refine LeO.bind ?_ (fun _ => ?_))
      | exact ih0 _ _ _ _ _
      | exact ih1 _ _ _ _ _ _
      | exact spec_KeyValid.mono _ _
      | exact LeO.none _
      | refine LeO.ite ?_ ?_
      | refine LeO.bind ?_ (fun _ => ?_)
    · intro y0 y1 y2 y3 y4 y5
      unfold spec_CommandValid.j1
      repeat' first
      | (with_reducible exact ih0 _ _ _ _ _)
      | (with_reducible exact ih1 _ _ _ _ _ _)
      | (with_reducible exact spec_KeyValid.mono _ _)
      | (with_reducible exact LeO.refl _)
      | (with_reducible exact LeO.none _)
      | (with_reducible refine LeO.ite ?_ ?_)
      | (with_reducible refine LeO.bind ?_ (fun _ => ?_))
      | exact ih0 _ _ _ _ _
      | exact ih1 _ _ _ _ _ _
      | exact spec_KeyValid.mono _ _
      | exact LeO.none _
      | refine LeO.ite ?_ ?_
      | refine LeO.bind ?_ (fun _ => ?_)
theorem spec_CommandValid.mono : ∀ a0 a1 a2 a3 k, LeO (spec_CommandValid.f k a0 a1 a2 a3) (spec_CommandValid.f (k + 1) a0 a1 a2 a3) := by
  intro a0 a1 a2 a3 k
  obtain ⟨ih0, ih1⟩ := spec_CommandValid.mono_l k
  unfold spec_CommandValid.f
  repeat' first
      | (with_reducible exact ih0 _ _ _ _ _)
      | (with_reducible exact ih1 _ _ _ _ _ _)
      | (with_reducible exact spec_KeyValid.mono _ _)
      | (with_reducible exact LeO.refl _)
      | (with_reducible exact LeO.none _)
      | (with_reducible refine LeO.ite ?_ ?_)
      | (with_reducible refine LeO.bind ?_ (fun _ => ?_))
      | exact ih0 _ _ _ _ _
      | exact ih1 _ _ _ _ _ _
      | exact spec_KeyValid.mono _ _
      | exact LeO.none _
      | refine LeO.ite ?_ ?_
      | refine LeO.bind ?_ (fun _ => ?_)
set_option maxHeartbeats 8000000 in
set_option maxRecDepth 100000 in
theorem spec_CommandValid.calls (k : Nat) (a0_0 : Int) (a0_1 : ByteArray) (a0_2 : Int) (a0_3 : Int) (r : Bool) (w : World) (h : spec_CommandValid.f k a0_0 a0_1 a0_2 a0_3 = some r) :
    Calls Try.prog 160 #[.agg #[.int .i64 a0_0, .string a0_1, .int .i64 a0_2, .int .i64 a0_3]] w fun e w' => e = .returned (.bool r) ∧ Below w.heap.size w w' := by
  have hu40 := Try.underlying40
  have HB := Aside0.mk (Below.refl w.heap.size w)
  have H : ((spec_KeyValid.f k a0_1).bind fun t258 => (if t258 = true then (spec_CommandValid.j0 k false a0_0 a0_1 a0_2 a0_3) else (if a0_0 = 5 then (spec_CommandValid.j0 k (a0_1.toList != ([] : List UInt8)) a0_0 a0_1 a0_2 a0_3) else (spec_CommandValid.j0 k true a0_0 a0_1 a0_2 a0_3)))) = some r := h
  clear h
  have HC2 := Aside0.mk H
  clear H
  go_enter Try.func160, Try.ntmps160
  go_upto_region 1 with (first | ((with_reducible refine gate_dst (N := 1) rfl ?_); refine bxe (N := 1) (cs := #[.int .i64 a0_0, .string a0_1, .int .i64 a0_2, .int .i64 a0_3]) (t := 40) ?_; intro gb257 hg w3 hbox hb; have BK257 := Aside0.mk (hbox); have GW257 := an2 HB hg; have GE257 := an2 HB hg; replace HB := an0 HB hb; clear hb hbox hg))
  (try simp only [Act.put, List.setIfInBounds_toArray, List.set_cons_zero, List.set_cons_succ])
  go_cut [16] (fun v16 wc => ∃ (kq : Nat) (x16_1 : Bool), v16 = .bool x16_1 ∧ Aside0 (spec_CommandValid.j0 kq x16_1 a0_0 a0_1 a0_2 a0_3 = some r) ∧ Aside0 (kq ≤ k) ∧ Aside0 (wc.heap[gb257]? = some (.cells #[.int .i64 a0_0, .string a0_1, .int .i64 a0_2, .int .i64 a0_3] 40 (0, 0))) ∧ Aside0 (Below w.heap.size w wc))
  case first =>
    have H := HC2.out
    clear HC2
    replace H := Option.bind_eq_some_iff.mp H
    obtain ⟨t258, A40, H⟩ := H
    replace H : (if t258 = true then (spec_CommandValid.j0 k false a0_0 a0_1 a0_2 a0_3) else (if a0_0 = 5 then (spec_CommandValid.j0 k (a0_1.toList != ([] : List UInt8)) a0_0 a0_1 a0_2 a0_3) else (spec_CommandValid.j0 k true a0_0 a0_1 a0_2 a0_3))) = some r := H
    have A4 := Aside0.mk A40
    clear A40
    by_cases c5 : t258 = true
    · subst c5
      have H1 : (spec_CommandValid.j0 k false a0_0 a0_1 a0_2 a0_3) = some r := by rw [if_pos rfl] at H; exact H
      clear H
      have H := H1
      clear H1
      have H' := Aside0.mk H
      clear H
      obtain ⟨hcz6_0, hcz6_1, hcz6_2, hcz6_3, hfz6_0, hfz6_1, hfz6_2, hfz6_3⟩ := cl4 BK257
      go_wp2_with (first | ((with_reducible refine gate_callee (f := 113) rfl ?_); refine gsl (some 5) rfl Try.func113 #[.string a0_1] rfl ?_; (with_reducible refine (spec_KeyValid.calls k a0_1 true _ A4.out).mono ?_); rintro e w' ⟨rfl, ⟨nd, rfl⟩⟩; refine ⟨_, rfl, ?_⟩))
      go_meet
      case rel => exact ⟨_, (false), (by first | rfl | (simp; done) | (simp [*]; done) | (simp [bne_nil_, beq_nil_]; done)), H', ⟨by first | omega | exact Nat.le_refl _⟩, ⟨kb BK257.out⟩, ⟨bp HB.out⟩⟩
    · replace c5 := Bool.eq_false_iff.mpr c5
      subst c5
      have H1 : (if a0_0 = 5 then (spec_CommandValid.j0 k (a0_1.toList != ([] : List UInt8)) a0_0 a0_1 a0_2 a0_3) else (spec_CommandValid.j0 k true a0_0 a0_1 a0_2 a0_3)) = some r := by rw [if_neg (show ¬ (false = true) by decide)] at H; exact H
      clear H
      have H := H1
      clear H1
      by_cases c7 : a0_0 = 5
      · rw [if_pos c7] at H
        have c7b0 : (a0_0 == 5) = true := beq_iff_eq.mpr c7
        have c7b1 : (a0_0 != 5) = false := bne_eq_false_iff_eq.mpr c7
        clear c7
        (first | rw [c7b0] | (simp only [i64_w, i32_w]; rw [c7b0]) | skip)
        have H' := Aside0.mk H
        clear H
        obtain ⟨hcz8_0, hcz8_1, hcz8_2, hcz8_3, hfz8_0, hfz8_1, hfz8_2, hfz8_3⟩ := cl4 BK257
        go_wp2_with (first | ((with_reducible refine gate_callee (f := 113) rfl ?_); refine gsl (some 5) rfl Try.func113 #[.string a0_1] rfl ?_; (with_reducible refine (spec_KeyValid.calls k a0_1 false _ A4.out).mono ?_); rintro e w' ⟨rfl, ⟨nd, rfl⟩⟩; refine ⟨_, rfl, ?_⟩))
        go_meet
        case rel => exact ⟨_, ((a0_1.toList != ([] : List UInt8))), (by first | rfl | (simp; done) | (simp [*]; done) | (simp [bne_nil_, beq_nil_]; done)), H', ⟨by first | omega | exact Nat.le_refl _⟩, ⟨kb BK257.out⟩, ⟨bp HB.out⟩⟩
      · rw [if_neg c7] at H
        have c7b0 : (a0_0 == 5) = false := beq_eq_false_iff_ne.mpr c7
        have c7b1 : (a0_0 != 5) = true := bne_iff_ne.mpr c7
        (first | rw [c7b0] | (simp only [i64_w, i32_w]; rw [c7b0]) | skip)
        have H' := Aside0.mk H
        clear H
        obtain ⟨hcz9_0, hcz9_1, hcz9_2, hcz9_3, hfz9_0, hfz9_1, hfz9_2, hfz9_3⟩ := cl4 BK257
        go_wp2_with (first | ((with_reducible refine gate_callee (f := 113) rfl ?_); refine gsl (some 5) rfl Try.func113 #[.string a0_1] rfl ?_; (with_reducible refine (spec_KeyValid.calls k a0_1 false _ A4.out).mono ?_); rintro e w' ⟨rfl, ⟨nd, rfl⟩⟩; refine ⟨_, rfl, ?_⟩))
        go_meet
        case rel => exact ⟨_, (true), (by first | rfl | (simp; done) | (simp [*]; done) | (simp [bne_nil_, beq_nil_]; done)), H', ⟨by first | omega | exact Nat.le_refl _⟩, ⟨kb BK257.out⟩, ⟨bp HB.out⟩⟩
  case rest =>
    clear HC2
    try clear c1
    try clear p2
    try clear c5
    try clear c7
    try clear c7b0
    try clear c7b1
    try clear hcz6_0
    try clear hcz6_1
    try clear hcz6_2
    try clear hcz6_3
    try clear hcz8_0
    try clear hcz8_1
    try clear hcz8_2
    try clear hcz8_3
    try clear hcz9_0
    try clear hcz9_1
    try clear hcz9_2
    try clear hcz9_3
    try clear hfz6_0
    try clear hfz6_1
    try clear hfz6_2
    try clear hfz6_3
    try clear hfz8_0
    try clear hfz8_1
    try clear hfz8_2
    try clear hfz8_3
    try clear hfz9_0
    try clear hfz9_1
    try clear hfz9_2
    try clear hfz9_3
    obtain ⟨kq, x16_1, rfl, HA, HJ1, BK257, HB⟩ := hcut
    cases kq with
    | zero => exact absurd HA.out (by simp [spec_CommandValid.j0])
    | succ kj1 =>
      have H := HA.out
      clear HA
      simp only [spec_CommandValid.j0] at H
      by_cases c10 : x16_1 = true
      · subst c10
        have H1 : (some false) = some r := by rw [if_pos rfl] at H; exact H
        clear H
        have H := H1
        clear H1
        obtain rfl := Option.some.inj H
        go_wp2
        go_ret
        exact ⟨fe, bp HB.out⟩
      · replace c10 := Bool.eq_false_iff.mpr c10
        subst c10
        have H1 : (if a0_0 = 1 then (spec_CommandValid.j1 kj1 a0_0 (a0_0 == 1) a0_0 a0_1 a0_2 a0_3) else (if a0_0 = 3 then (spec_CommandValid.j1 kj1 a0_0 (a0_0 == 3) a0_0 a0_1 a0_2 a0_3) else (spec_CommandValid.j1 kj1 a0_0 (a0_0 == 5) a0_0 a0_1 a0_2 a0_3))) = some r := by rw [if_neg (show ¬ (false = true) by decide)] at H; exact H
        clear H
        have H := H1
        clear H1
        have HC11 := Aside0.mk H
        clear H
        obtain ⟨hcz12_0, hcz12_1, hcz12_2, hcz12_3, hfz12_0, hfz12_1, hfz12_2, hfz12_3⟩ := cl4 BK257
        go_upto_if 19 with (fail)
        go_cut [19] (fun v19 wc => ∃ (kq : Nat) (x19_10 : Bool), v19 = .bool x19_10 ∧ Aside0 (spec_CommandValid.j1 kq a0_0 x19_10 a0_0 a0_1 a0_2 a0_3 = some r) ∧ Aside0 (kq ≤ kj1) ∧ Aside0 (wc.heap[gb257]? = some (.cells #[.int .i64 a0_0, .string a0_1, .int .i64 a0_2, .int .i64 a0_3] 40 (0, 0))) ∧ Aside0 (Below w.heap.size w wc))
        case first =>
          have H := HC11.out
          clear HC11
          by_cases c13 : a0_0 = 1
          · rw [if_pos c13] at H
            have c13b0 : (a0_0 == 1) = true := beq_iff_eq.mpr c13
            have c13b1 : (a0_0 != 1) = false := bne_eq_false_iff_eq.mpr c13
            clear c13
            (first | rw [c13b0] | (simp only [i64_w, i32_w]; rw [c13b0]) | skip)
            have H' := Aside0.mk H
            clear H
            go_wp2
            go_meet
            case rel => exact ⟨_, ((a0_0 == 1)), (by first | rfl | (simp; done) | (simp [*]; done) | (simp [bne_nil_, beq_nil_]; done)), H', ⟨by have := HJ1.out; first | omega | exact Nat.le_refl _⟩, ⟨kb BK257.out⟩, ⟨bp HB.out⟩⟩
          · rw [if_neg c13] at H
            have c13b0 : (a0_0 == 1) = false := beq_eq_false_iff_ne.mpr c13
            have c13b1 : (a0_0 != 1) = true := bne_iff_ne.mpr c13
            (first | rw [c13b0] | (simp only [i64_w, i32_w]; rw [c13b0]) | skip)
            by_cases c14 : a0_0 = 3
            · rw [if_pos c14] at H
              have c14b0 : (a0_0 == 3) = true := beq_iff_eq.mpr c14
              have c14b1 : (a0_0 != 3) = false := bne_eq_false_iff_eq.mpr c14
              clear c14
              have H' := Aside0.mk H
              clear H
              go_wp2
              go_meet
              case rel => exact ⟨_, ((a0_0 == 3)), (by first | rfl | (simp; done) | (simp [*]; done) | (simp [bne_nil_, beq_nil_]; done)), H', ⟨by have := HJ1.out; first | omega | exact Nat.le_refl _⟩, ⟨kb BK257.out⟩, ⟨bp HB.out⟩⟩
            · rw [if_neg c14] at H
              have c14b0 : (a0_0 == 3) = false := beq_eq_false_iff_ne.mpr c14
              have c14b1 : (a0_0 != 3) = true := bne_iff_ne.mpr c14
              have H' := Aside0.mk H
              clear H
              go_wp2
              go_meet
              case rel => exact ⟨_, ((a0_0 == 5)), (by first | rfl | (simp; done) | (simp [*]; done) | (simp [bne_nil_, beq_nil_]; done)), H', ⟨by have := HJ1.out; first | omega | exact Nat.le_refl _⟩, ⟨kb BK257.out⟩, ⟨bp HB.out⟩⟩
        case rest =>
          clear HC11
          try clear c1
          try clear p2
          try clear c5
          try clear p6
          try clear c7
          try clear c7b0
          try clear c7b1
          try clear c10
          try clear c11
          try clear c13
          try clear c13b0
          try clear c13b1
          try clear c14
          try clear c14b0
          try clear c14b1
          try clear hcz12_0
          try clear hcz12_1
          try clear hcz12_2
          try clear hcz12_3
          try clear hcz6_0
          try clear hcz6_1
          try clear hcz6_2
          try clear hcz6_3
          try clear hcz8_0
          try clear hcz8_1
          try clear hcz8_2
          try clear hcz8_3
          try clear hcz9_0
          try clear hcz9_1
          try clear hcz9_2
          try clear hcz9_3
          try clear hfz12_0
          try clear hfz12_1
          try clear hfz12_2
          try clear hfz12_3
          try clear hfz6_0
          try clear hfz6_1
          try clear hfz6_2
          try clear hfz6_3
          try clear hfz8_0
          try clear hfz8_1
          try clear hfz8_2
          try clear hfz8_3
          try clear hfz9_0
          try clear hfz9_1
          try clear hfz9_2
          try clear hfz9_3
          try clear p2
          obtain ⟨kq, x19_10, rfl, HA, HJ10, BK257, HB⟩ := hcut
          cases kq with
          | zero => exact absurd HA.out (by simp [spec_CommandValid.j1])
          | succ kj10 =>
            have H := HA.out
            clear HA
            simp only [spec_CommandValid.j1] at H
            by_cases c15 : x19_10 = true
            · subst c15
              have H1 : (if a0_2 = 0 then (some (a0_3 == 0)) else (some false)) = some r := by rw [if_pos rfl] at H; exact H
              clear H
              have H := H1
              clear H1
              by_cases c16 : a0_2 = 0
              · rw [if_pos c16] at H
                have c16b0 : (a0_2 == 0) = true := beq_iff_eq.mpr c16
                have c16b1 : (a0_2 != 0) = false := bne_eq_false_iff_eq.mpr c16
                clear c16
                obtain rfl := Option.some.inj H
                obtain ⟨hcz17_0, hcz17_1, hcz17_2, hcz17_3, hfz17_0, hfz17_1, hfz17_2, hfz17_3⟩ := cl4 BK257
                go_wp2
                go_ret
                exact ⟨fe, bp HB.out⟩
              · rw [if_neg c16] at H
                have c16b0 : (a0_2 == 0) = false := beq_eq_false_iff_ne.mpr c16
                have c16b1 : (a0_2 != 0) = true := bne_iff_ne.mpr c16
                obtain rfl := Option.some.inj H
                obtain ⟨hcz18_0, hcz18_1, hcz18_2, hcz18_3, hfz18_0, hfz18_1, hfz18_2, hfz18_3⟩ := cl4 BK257
                go_wp2
                go_ret
                exact ⟨fe, bp HB.out⟩
            · replace c15 := Bool.eq_false_iff.mpr c15
              subst c15
              have H1 : (if a0_0 = 2 then ((spec_l1In.f a0_2 0 999).bind fun t259 => (if t259 = true then (some (a0_3 == 0)) else (some false))) else (if a0_0 = 4 then ((spec_l1In.f a0_2 0 999).bind fun t260 => (if t260 = true then ((spec_l1In.f a0_3 (-1) 999).bind fun t261 => (some t261)) else (some false))) else (some false))) = some r := by rw [if_neg (show ¬ (false = true) by decide)] at H; exact H
              clear H
              have H := H1
              clear H1
              by_cases c19 : a0_0 = 2
              · rw [if_pos c19] at H
                have c19b0 : (a0_0 == 2) = true := beq_iff_eq.mpr c19
                have c19b1 : (a0_0 != 2) = false := bne_eq_false_iff_eq.mpr c19
                clear c19
                replace H := Option.bind_eq_some_iff.mp H
                obtain ⟨t259, A200, H⟩ := H
                replace H : (if t259 = true then (some (a0_3 == 0)) else (some false)) = some r := H
                have A20 := Aside0.mk A200
                clear A200
                by_cases c21 : t259 = true
                · subst c21
                  have H1 : (some (a0_3 == 0)) = some r := by rw [if_pos rfl] at H; exact H
                  clear H
                  have H := H1
                  clear H1
                  obtain rfl := Option.some.inj H
                  obtain ⟨hcz22_0, hcz22_1, hcz22_2, hcz22_3, hfz22_0, hfz22_1, hfz22_2, hfz22_3⟩ := cl4 BK257
                  go_wp2_with (first | ((with_reducible refine gate_callee (f := 112) rfl ?_); refine gsl (some 35) rfl Try.func112 #[.int .i64 a0_2, .int .i64 0, .int .i64 999] rfl ?_; (with_reducible refine (spec_l1In.calls a0_2 0 999 true _ A20.out).mono ?_); rintro e w' ⟨rfl, ⟨nd, rfl⟩⟩; refine ⟨_, rfl, ?_⟩))
                  go_ret
                  exact ⟨fe, bp HB.out⟩
                · replace c21 := Bool.eq_false_iff.mpr c21
                  subst c21
                  have H1 : (some false) = some r := by rw [if_neg (show ¬ (false = true) by decide)] at H; exact H
                  clear H
                  have H := H1
                  clear H1
                  obtain rfl := Option.some.inj H
                  obtain ⟨hcz23_0, hcz23_1, hcz23_2, hcz23_3, hfz23_0, hfz23_1, hfz23_2, hfz23_3⟩ := cl4 BK257
                  go_wp2_with (first | ((with_reducible refine gate_callee (f := 112) rfl ?_); refine gsl (some 35) rfl Try.func112 #[.int .i64 a0_2, .int .i64 0, .int .i64 999] rfl ?_; (with_reducible refine (spec_l1In.calls a0_2 0 999 false _ A20.out).mono ?_); rintro e w' ⟨rfl, ⟨nd, rfl⟩⟩; refine ⟨_, rfl, ?_⟩))
                  go_ret
                  exact ⟨fe, bp HB.out⟩
              · rw [if_neg c19] at H
                have c19b0 : (a0_0 == 2) = false := beq_eq_false_iff_ne.mpr c19
                have c19b1 : (a0_0 != 2) = true := bne_iff_ne.mpr c19
                by_cases c24 : a0_0 = 4
                · rw [if_pos c24] at H
                  have c24b0 : (a0_0 == 4) = true := beq_iff_eq.mpr c24
                  have c24b1 : (a0_0 != 4) = false := bne_eq_false_iff_eq.mpr c24
                  clear c24
                  replace H := Option.bind_eq_some_iff.mp H
                  obtain ⟨t260, A250, H⟩ := H
                  replace H : (if t260 = true then ((spec_l1In.f a0_3 (-1) 999).bind fun t261 => (some t261)) else (some false)) = some r := H
                  have A25 := Aside0.mk A250
                  clear A250
                  by_cases c26 : t260 = true
                  · subst c26
                    have H1 : ((spec_l1In.f a0_3 (-1) 999).bind fun t261 => (some t261)) = some r := by rw [if_pos rfl] at H; exact H
                    clear H
                    have H := H1
                    clear H1
                    replace H := Option.bind_eq_some_iff.mp H
                    obtain ⟨t261, A270, H⟩ := H
                    replace H : (some t261) = some r := H
                    have A27 := Aside0.mk A270
                    clear A270
                    obtain rfl := Option.some.inj H
                    obtain ⟨hcz28_0, hcz28_1, hcz28_2, hcz28_3, hfz28_0, hfz28_1, hfz28_2, hfz28_3⟩ := cl4 BK257
                    go_wp2_with (first | ((with_reducible refine gate_callee (f := 112) rfl ?_); refine gsl (some 45) rfl Try.func112 #[.int .i64 a0_2, .int .i64 0, .int .i64 999] rfl ?_; (with_reducible refine (spec_l1In.calls a0_2 0 999 true _ A25.out).mono ?_); rintro e w' ⟨rfl, ⟨nd, rfl⟩⟩; refine ⟨_, rfl, ?_⟩) | (go_at_call 112; (with_reducible refine (spec_l1In.calls a0_3 (-1) 999 t261 _ A27.out).mono ?_); rintro e w' ⟨rfl, ⟨nd, rfl⟩⟩))
                    go_ret
                    exact ⟨fe, bp HB.out⟩
                  · replace c26 := Bool.eq_false_iff.mpr c26
                    subst c26
                    have H1 : (some false) = some r := by rw [if_neg (show ¬ (false = true) by decide)] at H; exact H
                    clear H
                    have H := H1
                    clear H1
                    obtain rfl := Option.some.inj H
                    obtain ⟨hcz29_0, hcz29_1, hcz29_2, hcz29_3, hfz29_0, hfz29_1, hfz29_2, hfz29_3⟩ := cl4 BK257
                    go_wp2_with (first | ((with_reducible refine gate_callee (f := 112) rfl ?_); refine gsl (some 45) rfl Try.func112 #[.int .i64 a0_2, .int .i64 0, .int .i64 999] rfl ?_; (with_reducible refine (spec_l1In.calls a0_2 0 999 false _ A25.out).mono ?_); rintro e w' ⟨rfl, ⟨nd, rfl⟩⟩; refine ⟨_, rfl, ?_⟩))
                    go_ret
                    exact ⟨fe, bp HB.out⟩
                · rw [if_neg c24] at H
                  have c24b0 : (a0_0 == 4) = false := beq_eq_false_iff_ne.mpr c24
                  have c24b1 : (a0_0 != 4) = true := bne_iff_ne.mpr c24
                  obtain rfl := Option.some.inj H
                  go_wp2
                  go_ret
                  exact ⟨fe, bp HB.out⟩

/-! ### spec_ApplyCommand: function 130 -/
mutual
def spec_ApplyCommand.j0 : Nat → List (S29) → Bool → Int → ByteArray → Int → Int → Option ((List (S29)) × Int)
  | 0, _, _, _, _, _, _ => none
  | k + 1, x0, x24, x263000, x263001, x263002, x263003 => if x24 = true then (some ((([] : List (S29))), (-3))) else ((some (([] : List (S29)) : List (S29))).bind fun y268 => (if y268.length + x0.length < 5864062014805 then ((some (y268 ++ x0 : List (S29))).bind fun y271 => ((spec_PairGet.f k x0 x263001).bind fun t274 => (if x263000 = 1 then (spec_ApplyCommand.j1 k x0 y271 t274 true x263000 x263001 x263002 x263003) else (if x263000 = 4 then (spec_ApplyCommand.j1 k x0 y271 t274 (x263003 != t274) x263000 x263001 x263002 x263003) else (spec_ApplyCommand.j1 k x0 y271 t274 false x263000 x263001 x263002 x263003))))) else (none)))
def spec_ApplyCommand.j1 : Nat → List (S29) → List (S29) → Int → Bool → Int → ByteArray → Int → Int → Option ((List (S29)) × Int)
  | 0, _, _, _, _, _, _, _, _ => none
  | k + 1, x0, x6, x7, x46, x263000, x263001, x263002, x263003 => if x46 = true then (some (x6, x7)) else (if x263000 = 3 then ((spec_PairDrop.f k x0 x263001).bind fun bt275 => (some (bt275.1, x7))) else (if x7 < 0 then (if (x0.length : Int) ≥ 8 then (some (x6, (-2))) else ((spec_PairPut.f k x0 x263001 x263002).bind fun bt279 => (some (bt279.1, x7)))) else ((spec_PairPut.f k x0 x263001 x263002).bind fun bt283 => (some (bt283.1, x7)))))
end
def spec_ApplyCommand.f (k : Nat) (l0 : List (S29)) (a1_0 : Int) (a1_1 : ByteArray) (a1_2 : Int) (a1_3 : Int) : Option ((List (S29)) × Int) := (spec_PairsValid.f k l0).bind fun t263 => (if t263 = true then ((spec_CommandValid.f k a1_0 a1_1 a1_2 a1_3).bind fun t264 => (if t264 = true then (spec_ApplyCommand.j0 k l0 (a1_0 == 5) a1_0 a1_1 a1_2 a1_3) else (spec_ApplyCommand.j0 k l0 true a1_0 a1_1 a1_2 a1_3))) else (spec_ApplyCommand.j0 k l0 true a1_0 a1_1 a1_2 a1_3))
theorem spec_ApplyCommand.mono_l : ∀ k, (∀ y0 y1 y2 y3 y4 y5, LeO (spec_ApplyCommand.j0 k y0 y1 y2 y3 y4 y5) (spec_ApplyCommand.j0 (k + 1) y0 y1 y2 y3 y4 y5)) ∧ (∀ y0 y1 y2 y3 y4 y5 y6 y7, LeO (spec_ApplyCommand.j1 k y0 y1 y2 y3 y4 y5 y6 y7) (spec_ApplyCommand.j1 (k + 1) y0 y1 y2 y3 y4 y5 y6 y7))
  | 0 => ⟨fun _ _ _ _ _ _ r h => by simp [spec_ApplyCommand.j0] at h, fun _ _ _ _ _ _ _ _ r h => by simp [spec_ApplyCommand.j1] at h⟩
  | k + 1 => by
    obtain ⟨ih0, ih1⟩ := spec_ApplyCommand.mono_l k
    refine ⟨?_, ?_⟩
    · intro y0 y1 y2 y3 y4 y5
      unfold spec_ApplyCommand.j0
      repeat' first
      | (with_reducible exact ih0 _ _ _ _ _ _)
      | (with_reducible exact ih1 _ _ _ _ _ _ _ _)
      | (with_reducible exact spec_CommandValid.mono _ _ _ _ _)
      | (with_reducible exact spec_PairDrop.mono _ _ _)
      | (with_reducible exact spec_PairGet.mono _ _ _)
      | (with_reducible exact spec_PairPut.mono _ _ _ _)
      | (with_reducible exact spec_PairsValid.mono _ _)
      | (with_reducible exact LeO.refl _)
      | (with_reducible exact LeO.none _)
      | (with_reducible refine LeO.ite ?_ ?_)
      | (with_reducible refine LeO.bind ?_ (fun _ => ?_))
      | exact ih0 _ _ _ _ _ _
      | exact ih1 _ _ _ _ _ _ _ _
      | exact spec_CommandValid.mono _ _ _ _ _
      | exact spec_PairDrop.mono _ _ _
      | exact spec_PairGet.mono _ _ _
      | exact spec_PairPut.mono _ _ _ _
      | exact spec_PairsValid.mono _ _
      | exact LeO.none _
      | refine LeO.ite ?_ ?_
      | refine LeO.bind ?_ (fun _ => ?_)
    · intro y0 y1 y2 y3 y4 y5 y6 y7
      unfold spec_ApplyCommand.j1
      repeat' first
      | (with_reducible exact ih0 _ _ _ _ _ _)
      | (with_reducible exact ih1 _ _ _ _ _ _ _ _)
      | (with_reducible exact spec_CommandValid.mono _ _ _ _ _)
      | (with_reducible exact spec_PairDrop.mono _ _ _)
      | (with_reducible exact spec_PairGet.mono _ _ _)
      | (with_reducible exact spec_PairPut.mono _ _ _ _)
      | (with_reducible exact spec_PairsValid.mono _ _)
      | (with_reducible exact LeO.refl _)
      | (with_reducible exact LeO.none _)
      | (with_reducible refine LeO.ite ?_ ?_)
      | (with_reducible refine LeO.bind ?_ (fun _ => ?_))
      | exact ih0 _ _ _ _ _ _
      | exact ih1 _ _ _ _ _ _ _ _
      | exact spec_CommandValid.mono _ _ _ _ _
      | exact spec_PairDrop.mono _ _ _
      | exact spec_PairGet.mono _ _ _
      | exact spec_PairPut.mono _ _ _ _
      | exact spec_PairsValid.mono _ _
      | exact LeO.none _
      | refine LeO.ite ?_ ?_
      | refine LeO.bind ?_ (fun _ => ?_)
theorem spec_ApplyCommand.mono : ∀ a0 a1 a2 a3 a4 k, LeO (spec_ApplyCommand.f k a0 a1 a2 a3 a4) (spec_ApplyCommand.f (k + 1) a0 a1 a2 a3 a4) := by
  intro a0 a1 a2 a3 a4 k
  obtain ⟨ih0, ih1⟩ := spec_ApplyCommand.mono_l k
  unfold spec_ApplyCommand.f
  repeat' first
      | (with_reducible exact ih0 _ _ _ _ _ _)
      | (with_reducible exact ih1 _ _ _ _ _ _ _ _)
      | (with_reducible exact spec_CommandValid.mono _ _ _ _ _)
      | (with_reducible exact spec_PairDrop.mono _ _ _)
      | (with_reducible exact spec_PairGet.mono _ _ _)
      | (with_reducible exact spec_PairPut.mono _ _ _ _)
      | (with_reducible exact spec_PairsValid.mono _ _)
      | (with_reducible exact LeO.refl _)
      | (with_reducible exact LeO.none _)
      | (with_reducible refine LeO.ite ?_ ?_)
      | (with_reducible refine LeO.bind ?_ (fun _ => ?_))
      | exact ih0 _ _ _ _ _ _
      | exact ih1 _ _ _ _ _ _ _ _
      | exact spec_CommandValid.mono _ _ _ _ _
      | exact spec_PairDrop.mono _ _ _
      | exact spec_PairGet.mono _ _ _
      | exact spec_PairPut.mono _ _ _ _
      | exact spec_PairsValid.mono _ _
      | exact LeO.none _
      | refine LeO.ite ?_ ?_
      | refine LeO.bind ?_ (fun _ => ?_)
set_option maxHeartbeats 8000000 in
set_option maxRecDepth 100000 in
theorem spec_ApplyCommand.calls (k : Nat) (A0 : Option Addr) (c0 : Nat) (l0 : List (S29)) (a1_0 : Int) (a1_1 : ByteArray) (a1_2 : Int) (a1_3 : Int) (r1 : List (S29)) (r2 : Int) (w : World) (hr0 : Kd.C k29 w A0 l0.length l0) (hc0 : l0.length ≤ c0) (h : spec_ApplyCommand.f k l0 a1_0 a1_1 a1_2 a1_3 = some (r1, r2)) :
    Calls Try.prog 130 #[.slice A0 l0.length c0, .agg #[.int .i64 a1_0, .string a1_1, .int .i64 a1_2, .int .i64 a1_3]] w fun e w' => ∃ v0_ : Value, e = .returned (.tuple #[v0_, .int .i64 r2]) ∧ Kd.R k29 29 w' w.heap.size (fun _ => True) v0_ r1 ∧ Below w.heap.size w w' := by
  have hu40 := Try.underlying40
  have HR0 := Aside0.mk hr0
  have HC0 := Aside0.mk hc0
  clear hr0 hc0
  have HB := Aside0.mk (Below.refl w.heap.size w)
  have H : ((spec_PairsValid.f k l0).bind fun t263 => (if t263 = true then ((spec_CommandValid.f k a1_0 a1_1 a1_2 a1_3).bind fun t264 => (if t264 = true then (spec_ApplyCommand.j0 k l0 (a1_0 == 5) a1_0 a1_1 a1_2 a1_3) else (spec_ApplyCommand.j0 k l0 true a1_0 a1_1 a1_2 a1_3))) else (spec_ApplyCommand.j0 k l0 true a1_0 a1_1 a1_2 a1_3))) = some (r1, r2) := h
  clear h
  have HC3 := Aside0.mk H
  clear H
  go_enter Try.func130, Try.ntmps130
  go_upto_region 1 with (first | ((with_reducible refine gate_dst (N := 3) rfl ?_); (try (refine gate_guard (by rfl) ?_; dsimp only)); refine bxe (N := 3) (cs := #[.int .i64 a1_0, .string a1_1, .int .i64 a1_2, .int .i64 a1_3]) (t := 40) ?_; intro gb262 hg w4 hbox hb; have BK262 := Aside0.mk (hbox); have GW262 := an2 HB hg; have GE262 := an2 HB hg; replace HB := an0 HB hb; clear hb hbox hg))
  (try simp only [Act.put, List.setIfInBounds_toArray, List.set_cons_zero, List.set_cons_succ])
  go_cut [24] (fun v24 wc => ∃ (kq : Nat) (x24_2 : Bool), v24 = .bool x24_2 ∧ Aside0 (spec_ApplyCommand.j0 kq l0 x24_2 a1_0 a1_1 a1_2 a1_3 = some (r1, r2)) ∧ Aside0 (kq ≤ k) ∧ Aside0 (wc.heap[gb262]? = some (.cells #[.int .i64 a1_0, .string a1_1, .int .i64 a1_2, .int .i64 a1_3] 40 (0, 0))) ∧ Aside0 (Below w.heap.size w wc))
  case first =>
    have H := HC3.out
    clear HC3
    replace H := Option.bind_eq_some_iff.mp H
    obtain ⟨t263, A50, H⟩ := H
    replace H : (if t263 = true then ((spec_CommandValid.f k a1_0 a1_1 a1_2 a1_3).bind fun t264 => (if t264 = true then (spec_ApplyCommand.j0 k l0 (a1_0 == 5) a1_0 a1_1 a1_2 a1_3) else (spec_ApplyCommand.j0 k l0 true a1_0 a1_1 a1_2 a1_3))) else (spec_ApplyCommand.j0 k l0 true a1_0 a1_1 a1_2 a1_3)) = some (r1, r2) := H
    have A5 := Aside0.mk A50
    clear A50
    by_cases c6 : t263 = true
    · subst c6
      have H1 : ((spec_CommandValid.f k a1_0 a1_1 a1_2 a1_3).bind fun t264 => (if t264 = true then (spec_ApplyCommand.j0 k l0 (a1_0 == 5) a1_0 a1_1 a1_2 a1_3) else (spec_ApplyCommand.j0 k l0 true a1_0 a1_1 a1_2 a1_3))) = some (r1, r2) := by rw [if_pos rfl] at H; exact H
      clear H
      have H := H1
      clear H1
      replace H := Option.bind_eq_some_iff.mp H
      obtain ⟨t264, A70, H⟩ := H
      replace H : (if t264 = true then (spec_ApplyCommand.j0 k l0 (a1_0 == 5) a1_0 a1_1 a1_2 a1_3) else (spec_ApplyCommand.j0 k l0 true a1_0 a1_1 a1_2 a1_3)) = some (r1, r2) := H
      have A7 := Aside0.mk A70
      clear A70
      by_cases c8 : t264 = true
      · subst c8
        have H1 : (spec_ApplyCommand.j0 k l0 (a1_0 == 5) a1_0 a1_1 a1_2 a1_3) = some (r1, r2) := by rw [if_pos rfl] at H; exact H
        clear H
        have H := H1
        clear H1
        have H' := Aside0.mk H
        clear H
        go_wp2_with (first | ((with_reducible refine gate_callee (f := 72) rfl ?_); refine gsl (some 13) rfl Try.func72 #[.slice A0 l0.length c0] rfl ?_; (with_reducible refine (spec_PairsValid.calls k _ _ l0 true _ ?side1 ?side2 A5.out).mono ?_); (case side1 => exact cc (Kd.C_below HR0.out HB.out)); (case side2 => exact HC0.out); rintro e w9 ⟨rfl, hb⟩; refine ⟨_, rfl, ?_⟩; replace BK262 := an1 BK262 hb; replace HB := an0 HB hb; (try clear hb); (try clear hb2); (try clear hk); (try clear hi); obtain ⟨hcz10_0, hcz10_1, hcz10_2, hcz10_3, hfz10_0, hfz10_1, hfz10_2, hfz10_3⟩ := cl4 BK262) | (go_at_call 160; (with_reducible refine (spec_CommandValid.calls k a1_0 a1_1 a1_2 a1_3 true _ A7.out).mono ?_); rintro e w11 ⟨rfl, hb⟩; replace BK262 := an1 BK262 hb; replace HB := an0 HB hb; (try clear hb); (try clear hb2); (try clear hk); (try clear hi); obtain ⟨hcz12_0, hcz12_1, hcz12_2, hcz12_3, hfz12_0, hfz12_1, hfz12_2, hfz12_3⟩ := cl4 BK262))
        go_meet
        case rel => exact ⟨_, ((a1_0 == 5)), (by first | rfl | (simp; done) | (simp [*]; done) | (simp [bne_nil_, beq_nil_]; done)), H', ⟨by first | omega | exact Nat.le_refl _⟩, ⟨kb BK262.out⟩, ⟨bp HB.out⟩⟩
      · replace c8 := Bool.eq_false_iff.mpr c8
        subst c8
        have H1 : (spec_ApplyCommand.j0 k l0 true a1_0 a1_1 a1_2 a1_3) = some (r1, r2) := by rw [if_neg (show ¬ (false = true) by decide)] at H; exact H
        clear H
        have H := H1
        clear H1
        have H' := Aside0.mk H
        clear H
        go_wp2_with (first | ((with_reducible refine gate_callee (f := 72) rfl ?_); refine gsl (some 13) rfl Try.func72 #[.slice A0 l0.length c0] rfl ?_; (with_reducible refine (spec_PairsValid.calls k _ _ l0 true _ ?side1 ?side2 A5.out).mono ?_); (case side1 => exact cc (Kd.C_below HR0.out HB.out)); (case side2 => exact HC0.out); rintro e w13 ⟨rfl, hb⟩; refine ⟨_, rfl, ?_⟩; replace BK262 := an1 BK262 hb; replace HB := an0 HB hb; (try clear hb); (try clear hb2); (try clear hk); (try clear hi); obtain ⟨hcz14_0, hcz14_1, hcz14_2, hcz14_3, hfz14_0, hfz14_1, hfz14_2, hfz14_3⟩ := cl4 BK262) | (go_at_call 160; (with_reducible refine (spec_CommandValid.calls k a1_0 a1_1 a1_2 a1_3 false _ A7.out).mono ?_); rintro e w15 ⟨rfl, hb⟩; replace BK262 := an1 BK262 hb; replace HB := an0 HB hb; (try clear hb); (try clear hb2); (try clear hk); (try clear hi)))
        go_meet
        case rel => exact ⟨_, (true), (by first | rfl | (simp; done) | (simp [*]; done) | (simp [bne_nil_, beq_nil_]; done)), H', ⟨by first | omega | exact Nat.le_refl _⟩, ⟨kb BK262.out⟩, ⟨bp HB.out⟩⟩
    · replace c6 := Bool.eq_false_iff.mpr c6
      subst c6
      have H1 : (spec_ApplyCommand.j0 k l0 true a1_0 a1_1 a1_2 a1_3) = some (r1, r2) := by rw [if_neg (show ¬ (false = true) by decide)] at H; exact H
      clear H
      have H := H1
      clear H1
      have H' := Aside0.mk H
      clear H
      go_wp2_with (first | ((with_reducible refine gate_callee (f := 72) rfl ?_); refine gsl (some 13) rfl Try.func72 #[.slice A0 l0.length c0] rfl ?_; (with_reducible refine (spec_PairsValid.calls k _ _ l0 false _ ?side1 ?side2 A5.out).mono ?_); (case side1 => exact cc (Kd.C_below HR0.out HB.out)); (case side2 => exact HC0.out); rintro e w16 ⟨rfl, hb⟩; refine ⟨_, rfl, ?_⟩; replace BK262 := an1 BK262 hb; replace HB := an0 HB hb; (try clear hb); (try clear hb2); (try clear hk); (try clear hi)))
      go_meet
      case rel => exact ⟨_, (true), (by first | rfl | (simp; done) | (simp [*]; done) | (simp [bne_nil_, beq_nil_]; done)), H', ⟨by first | omega | exact Nat.le_refl _⟩, ⟨kb BK262.out⟩, ⟨bp HB.out⟩⟩
  case rest =>
    clear HC3
    try clear c1
    try clear p2
    try clear c6
    try clear c7
    try clear c8
    try clear c13
    try clear hcz10_0
    try clear hcz10_1
    try clear hcz10_2
    try clear hcz10_3
    try clear hcz12_0
    try clear hcz12_1
    try clear hcz12_2
    try clear hcz12_3
    try clear hcz14_0
    try clear hcz14_1
    try clear hcz14_2
    try clear hcz14_3
    try clear hfz10_0
    try clear hfz10_1
    try clear hfz10_2
    try clear hfz10_3
    try clear hfz12_0
    try clear hfz12_1
    try clear hfz12_2
    try clear hfz12_3
    try clear hfz14_0
    try clear hfz14_1
    try clear hfz14_2
    try clear hfz14_3
    obtain ⟨kq, x24_2, rfl, HA, HJ2, BK262, HB⟩ := hcut
    cases kq with
    | zero => exact absurd HA.out (by simp [spec_ApplyCommand.j0])
    | succ kj2 =>
      have H := HA.out
      clear HA
      simp only [spec_ApplyCommand.j0] at H
      by_cases c17 : x24_2 = true
      · subst c17
        have H1 : (some ((([] : List (S29))), (-3))) = some (r1, r2) := by rw [if_pos rfl] at H; exact H
        clear H
        have H := H1
        clear H1
        obtain ⟨y265, hy265⟩ : ∃ y_ : List (S29), y_ = (([] : List (S29))) := ⟨_, rfl⟩
        replace H : (some (y265, (-3))) = some (r1, r2) := by first | (rw [hy265]; with_reducible exact H) | (have H2_ := (Option.bind_some _ _).symm.trans H; rw [hy265]; with_reducible exact H2_) | (have H2_ := (Option.bind_some _ _).symm.trans H; with_reducible exact H2_) | with_reducible exact H | (rw [hy265]; exact H) | exact H
        have Ny265 := Aside0.mk hy265
        clear hy265
        simp only [Option.some.injEq, Prod.mk.injEq] at H
        obtain ⟨rfl, rfl⟩ := H
        go_wp2_with (first | ((with_reducible refine gate_dst (N := 25) rfl ?_); (try (refine gate_guard (by rfl) ?_; dsimp only)); refine Kd.R_lit k29 _ 29 ?hg (N := 25) ?hd (xs := ([] : List (S29))) (inner := []) (ok := fun _ => True) (okp := fun _ => True) ?hr ?hp (fun _ hk => hk) trivial (Below.refl _ _) (Nat.le_refl _) (by simp) ?_; (case hd => rfl); (case hg => rfl); (case hr => first | (go_simp; done) | (go_simp; rfl)); (case hp => exact (Reps.none _ _)); intro v266 w18 ho19 hb hg_ hnew_; clear hg_ hnew_; (first | rw [← Ny265.out] at ho19 | (simp only [Int.reduceToNat] at ho19; rw [← Ny265.out] at ho19)); have n0_ := Aside0.mk (Kd.R_lower ho19 (below_size (bp HB.out))); have n1_ := an1 BK262 hb; have n2_ := an0 HB hb; clear BK262; clear HB; have HO267 := n0_; have BK262 := n1_; have HB := n2_; clear n0_ n1_ n2_; clear hb ho19))
        go_ret2
        exact ⟨_, fe, by (with_reducible repeat (first | apply Kd.R_alloc | apply Kd.R_drewN | apply Kd.R_drew)); exact HO267.out, bp HB.out⟩
      · replace c17 := Bool.eq_false_iff.mpr c17
        subst c17
        have H1 : ((some (([] : List (S29)) : List (S29))).bind fun y268 => (if y268.length + l0.length < 5864062014805 then ((some (y268 ++ l0 : List (S29))).bind fun y271 => ((spec_PairGet.f kj2 l0 a1_1).bind fun t274 => (if a1_0 = 1 then (spec_ApplyCommand.j1 kj2 l0 y271 t274 true a1_0 a1_1 a1_2 a1_3) else (if a1_0 = 4 then (spec_ApplyCommand.j1 kj2 l0 y271 t274 (a1_3 != t274) a1_0 a1_1 a1_2 a1_3) else (spec_ApplyCommand.j1 kj2 l0 y271 t274 false a1_0 a1_1 a1_2 a1_3))))) else (none))) = some (r1, r2) := by rw [if_neg (show ¬ (false = true) by decide)] at H; exact H
        clear H
        have H := H1
        clear H1
        obtain ⟨y268, hy268⟩ : ∃ y_ : List (S29), y_ = (([] : List (S29))) := ⟨_, rfl⟩
        replace H : (if y268.length + l0.length < 5864062014805 then ((some (y268 ++ l0 : List (S29))).bind fun y271 => ((spec_PairGet.f kj2 l0 a1_1).bind fun t274 => (if a1_0 = 1 then (spec_ApplyCommand.j1 kj2 l0 y271 t274 true a1_0 a1_1 a1_2 a1_3) else (if a1_0 = 4 then (spec_ApplyCommand.j1 kj2 l0 y271 t274 (a1_3 != t274) a1_0 a1_1 a1_2 a1_3) else (spec_ApplyCommand.j1 kj2 l0 y271 t274 false a1_0 a1_1 a1_2 a1_3))))) else (none)) = some (r1, r2) := by first | (rw [hy268]; with_reducible exact H) | (have H2_ := (Option.bind_some _ _).symm.trans H; rw [hy268]; with_reducible exact H2_) | (have H2_ := (Option.bind_some _ _).symm.trans H; with_reducible exact H2_) | with_reducible exact H | (rw [hy268]; exact H) | exact H
        have Ny268 := Aside0.mk hy268
        clear hy268
        by_cases c20 : y268.length + l0.length < 5864062014805
        · rw [if_pos c20] at H
          have LMc20 := Aside0.mk c20
          clear c20
          obtain ⟨y271, hy271⟩ : ∃ y_ : List (S29), y_ = (y268 ++ l0) := ⟨_, rfl⟩
          replace H : ((spec_PairGet.f kj2 l0 a1_1).bind fun t274 => (if a1_0 = 1 then (spec_ApplyCommand.j1 kj2 l0 y271 t274 true a1_0 a1_1 a1_2 a1_3) else (if a1_0 = 4 then (spec_ApplyCommand.j1 kj2 l0 y271 t274 (a1_3 != t274) a1_0 a1_1 a1_2 a1_3) else (spec_ApplyCommand.j1 kj2 l0 y271 t274 false a1_0 a1_1 a1_2 a1_3)))) = some (r1, r2) := by first | (rw [hy271]; with_reducible exact H) | (have H2_ := (Option.bind_some _ _).symm.trans H; rw [hy271]; with_reducible exact H2_) | (have H2_ := (Option.bind_some _ _).symm.trans H; with_reducible exact H2_) | with_reducible exact H | (rw [hy271]; exact H) | exact H
          have Ny271 := Aside0.mk hy271
          clear hy271
          replace H := Option.bind_eq_some_iff.mp H
          obtain ⟨t274, A210, H⟩ := H
          replace H : (if a1_0 = 1 then (spec_ApplyCommand.j1 kj2 l0 y271 t274 true a1_0 a1_1 a1_2 a1_3) else (if a1_0 = 4 then (spec_ApplyCommand.j1 kj2 l0 y271 t274 (a1_3 != t274) a1_0 a1_1 a1_2 a1_3) else (spec_ApplyCommand.j1 kj2 l0 y271 t274 false a1_0 a1_1 a1_2 a1_3))) = some (r1, r2) := H
          have A21 := Aside0.mk A210
          clear A210
          have HC22 := Aside0.mk H
          clear H
          go_upto_region 5 with (first | ((with_reducible refine gate_dst (N := 26) rfl ?_); (try (refine gate_guard (by rfl) ?_; dsimp only)); refine Kd.R_lit k29 _ 29 ?hg (N := 26) ?hd (xs := ([] : List (S29))) (inner := []) (ok := fun _ => True) (okp := fun _ => True) ?hr ?hp (fun _ hk => hk) trivial (Below.refl _ _) (Nat.le_refl _) (by simp) ?_; (case hd => rfl); (case hg => rfl); (case hr => first | (go_simp; done) | (go_simp; rfl)); (case hp => exact (Reps.none _ _)); intro v269 w23 ho24 hb hg_ hnew_; clear hg_ hnew_; (first | rw [← Ny268.out] at ho24 | (simp only [Int.reduceToNat] at ho24; rw [← Ny268.out] at ho24)); have n0_ := Aside0.mk (Kd.R_lower ho24 (below_size (bp HB.out))); have n1_ := an1 BK262 hb; have n2_ := an0 HB hb; clear BK262; clear HB; have HO270 := n0_; have BK262 := n1_; have HB := n2_; clear n0_ n1_ n2_; clear hb ho24) | ((with_reducible refine gate_builtin (b := .append) (xs := #[.tmp 26, .tmp 27]) rfl ?_); (try (refine gate_guard (by rfl) ?_; dsimp only)); at_builtin; refine Kd.R_append_rows k29 (w0 := w) w.heap.size rfl (.tmp 26) (.tmp 27) 23 29 (.agg #[(.string ⟨#[]⟩), (.int .i64 0)]) 24 rfl Try.underlying23 info29 rfl (by decide) (by omega) v269 y268 l0 _ _ _ (fun _ => True) (fun _ => False) rfl rfl ?aO ?aR (fun _ _ h => h) (fun _ h => h.elim) ?aF ?aB ?aS ?aL ?_; (case aR => exact cc (Kd.C_below HR0.out HB.out)); (case aB => exact (bp HB.out)); (case aF => exact (fun _ _ => trivial)); (case aO => exact (kr HO270.out)); (case aS => exact (below_size (bp HB.out))); (case aL => have := LMc20.out; omega); intro v272 w25 ho hb hg hat; rw [← Ny271.out] at ho; have n0_ := Aside0.mk (blk_grown (g := gb262) (o := .cells #[.int .i64 a1_0, .string a1_1, .int .i64 a1_2, .int .i64 a1_3] 40 (0, 0)) (kb BK262.out) hg (Kd.R_ne HO270.out BK262.out (by decide))); have n1_ := Aside0.mk (hb); have n2_ := Aside0.mk (ho); clear BK262; clear HB; clear HO270; have BK262 := n0_; have HB := n1_; have HO273 := n2_; clear n0_ n1_ n2_; clear ho hb hg hat; obtain ⟨hcz26_0, hcz26_1, hcz26_2, hcz26_3, hfz26_0, hfz26_1, hfz26_2, hfz26_3⟩ := cl4 BK262) | ((with_reducible refine gate_callee (f := 91) rfl ?_); refine gsl (some 32) rfl Try.func91 #[.slice A0 l0.length c0, .string a1_1] rfl ?_; (with_reducible refine (spec_PairGet.calls kj2 _ _ l0 a1_1 t274 _ ?side1 ?side2 A21.out).mono ?_); (case side1 => exact cc (Kd.C_below HR0.out HB.out)); (case side2 => exact HC0.out); rintro e w27 ⟨rfl, hb⟩; refine ⟨_, rfl, ?_⟩; have n0_ := Aside0.mk (Kd.R_below (kr HO273.out) hb); have n1_ := an1 BK262 hb; have n2_ := an0 HB hb; clear HO273; clear BK262; clear HB; have HO273 := n0_; have BK262 := n1_; have HB := n2_; clear n0_ n1_ n2_; (try clear hb); (try clear hb2); (try clear hk); (try clear hi)))
          (try simp only [Act.put, List.setIfInBounds_toArray, List.set_cons_zero, List.set_cons_succ])
          go_cut [46] (fun v46 wc => ∃ (kq : Nat) (x46_21 : Bool), v46 = .bool x46_21 ∧ Aside0 (spec_ApplyCommand.j1 kq l0 y271 t274 x46_21 a1_0 a1_1 a1_2 a1_3 = some (r1, r2)) ∧ Aside0 (kq ≤ kj2) ∧ Aside0 (Kd.R k29 29 wc w.heap.size (fun _ => True) v272 y271) ∧ Aside0 (wc.heap[gb262]? = some (.cells #[.int .i64 a1_0, .string a1_1, .int .i64 a1_2, .int .i64 a1_3] 40 (0, 0))) ∧ Aside0 (Below w.heap.size w wc))
          case first =>
            have H := HC22.out
            clear HC22
            by_cases c28 : a1_0 = 1
            · rw [if_pos c28] at H
              have c28b0 : (a1_0 == 1) = true := beq_iff_eq.mpr c28
              have c28b1 : (a1_0 != 1) = false := bne_eq_false_iff_eq.mpr c28
              clear c28
              (first | rw [c28b0] | (simp only [i64_w, i32_w]; rw [c28b0]) | skip)
              have H' := Aside0.mk H
              clear H
              obtain ⟨hcz29_0, hcz29_1, hcz29_2, hcz29_3, hfz29_0, hfz29_1, hfz29_2, hfz29_3⟩ := cl4 BK262
              go_wp2
              go_meet
              case rel => exact ⟨_, (true), (by first | rfl | (simp; done) | (simp [*]; done) | (simp [bne_nil_, beq_nil_]; done)), H', ⟨by have := HJ2.out; first | omega | exact Nat.le_refl _⟩, ⟨by (with_reducible repeat (first | apply Kd.R_alloc | apply Kd.R_drewN | apply Kd.R_drew)); exact HO273.out⟩, ⟨kb BK262.out⟩, ⟨bp HB.out⟩⟩
            · rw [if_neg c28] at H
              have c28b0 : (a1_0 == 1) = false := beq_eq_false_iff_ne.mpr c28
              have c28b1 : (a1_0 != 1) = true := bne_iff_ne.mpr c28
              (first | rw [c28b0] | (simp only [i64_w, i32_w]; rw [c28b0]) | skip)
              by_cases c30 : a1_0 = 4
              · rw [if_pos c30] at H
                have c30b0 : (a1_0 == 4) = true := beq_iff_eq.mpr c30
                have c30b1 : (a1_0 != 4) = false := bne_eq_false_iff_eq.mpr c30
                clear c30
                have H' := Aside0.mk H
                clear H
                obtain ⟨hcz31_0, hcz31_1, hcz31_2, hcz31_3, hfz31_0, hfz31_1, hfz31_2, hfz31_3⟩ := cl4 BK262
                go_wp2
                go_meet
                case rel => exact ⟨_, ((a1_3 != t274)), (by first | rfl | (simp; done) | (simp [*]; done) | (simp [bne_nil_, beq_nil_]; done)), H', ⟨by have := HJ2.out; first | omega | exact Nat.le_refl _⟩, ⟨by (with_reducible repeat (first | apply Kd.R_alloc | apply Kd.R_drewN | apply Kd.R_drew)); exact HO273.out⟩, ⟨kb BK262.out⟩, ⟨bp HB.out⟩⟩
              · rw [if_neg c30] at H
                have c30b0 : (a1_0 == 4) = false := beq_eq_false_iff_ne.mpr c30
                have c30b1 : (a1_0 != 4) = true := bne_iff_ne.mpr c30
                have H' := Aside0.mk H
                clear H
                obtain ⟨hcz32_0, hcz32_1, hcz32_2, hcz32_3, hfz32_0, hfz32_1, hfz32_2, hfz32_3⟩ := cl4 BK262
                go_wp2
                go_meet
                case rel => exact ⟨_, (false), (by first | rfl | (simp; done) | (simp [*]; done) | (simp [bne_nil_, beq_nil_]; done)), H', ⟨by have := HJ2.out; first | omega | exact Nat.le_refl _⟩, ⟨by (with_reducible repeat (first | apply Kd.R_alloc | apply Kd.R_drewN | apply Kd.R_drew)); exact HO273.out⟩, ⟨kb BK262.out⟩, ⟨bp HB.out⟩⟩
          case rest =>
            clear HC22
            try clear c1
            try clear c2
            try clear p2
            try clear c3
            try clear c6
            try clear p6
            try clear c7
            try clear c8
            try clear c9
            try clear c13
            try clear c17
            try clear c20
            try clear c28
            try clear c28b0
            try clear c28b1
            try clear c30
            try clear c30b0
            try clear c30b1
            try clear hcz10_0
            try clear hcz10_1
            try clear hcz10_2
            try clear hcz10_3
            try clear hcz12_0
            try clear hcz12_1
            try clear hcz12_2
            try clear hcz12_3
            try clear hcz14_0
            try clear hcz14_1
            try clear hcz14_2
            try clear hcz14_3
            try clear hcz26_0
            try clear hcz26_1
            try clear hcz26_2
            try clear hcz26_3
            try clear hcz29_0
            try clear hcz29_1
            try clear hcz29_2
            try clear hcz29_3
            try clear hcz31_0
            try clear hcz31_1
            try clear hcz31_2
            try clear hcz31_3
            try clear hcz32_0
            try clear hcz32_1
            try clear hcz32_2
            try clear hcz32_3
            try clear hfz10_0
            try clear hfz10_1
            try clear hfz10_2
            try clear hfz10_3
            try clear hfz12_0
            try clear hfz12_1
            try clear hfz12_2
            try clear hfz12_3
            try clear hfz14_0
            try clear hfz14_1
            try clear hfz14_2
            try clear hfz14_3
            try clear hfz26_0
            try clear hfz26_1
            try clear hfz26_2
            try clear hfz26_3
            try clear hfz29_0
            try clear hfz29_1
            try clear hfz29_2
            try clear hfz29_3
            try clear hfz31_0
            try clear hfz31_1
            try clear hfz31_2
            try clear hfz31_3
            try clear hfz32_0
            try clear hfz32_1
            try clear hfz32_2
            try clear hfz32_3
            try clear p2
            obtain ⟨kq, x46_21, rfl, HA, HJ21, HO_6, BK262, HB⟩ := hcut
            cases kq with
            | zero => exact absurd HA.out (by simp [spec_ApplyCommand.j1])
            | succ kj21 =>
              have H := HA.out
              clear HA
              simp only [spec_ApplyCommand.j1] at H
              by_cases c33 : x46_21 = true
              · subst c33
                have H1 : (some (y271, t274)) = some (r1, r2) := by rw [if_pos rfl] at H; exact H
                clear H
                have H := H1
                clear H1
                simp only [Option.some.injEq, Prod.mk.injEq] at H
                obtain ⟨rfl, rfl⟩ := H
                go_wp2
                go_ret2
                exact ⟨_, fe, by (with_reducible repeat (first | apply Kd.R_alloc | apply Kd.R_drewN | apply Kd.R_drew)); exact HO_6.out, bp HB.out⟩
              · replace c33 := Bool.eq_false_iff.mpr c33
                subst c33
                have H1 : (if a1_0 = 3 then ((spec_PairDrop.f kj21 l0 a1_1).bind fun bt275 => (some (bt275.1, t274))) else (if t274 < 0 then (if (l0.length : Int) ≥ 8 then (some (y271, (-2))) else ((spec_PairPut.f kj21 l0 a1_1 a1_2).bind fun bt279 => (some (bt279.1, t274)))) else ((spec_PairPut.f kj21 l0 a1_1 a1_2).bind fun bt283 => (some (bt283.1, t274))))) = some (r1, r2) := by rw [if_neg (show ¬ (false = true) by decide)] at H; exact H
                clear H
                have H := H1
                clear H1
                by_cases c34 : a1_0 = 3
                · rw [if_pos c34] at H
                  have c34b0 : (a1_0 == 3) = true := beq_iff_eq.mpr c34
                  have c34b1 : (a1_0 != 3) = false := bne_eq_false_iff_eq.mpr c34
                  clear c34
                  replace H := Option.bind_eq_some_iff.mp H
                  obtain ⟨⟨t275, t276⟩, A350, H⟩ := H
                  replace H : (some (t275, t274)) = some (r1, r2) := H
                  have A35 := Aside0.mk A350
                  clear A350
                  simp only [Option.some.injEq, Prod.mk.injEq] at H
                  obtain ⟨rfl, rfl⟩ := H
                  obtain ⟨hcz36_0, hcz36_1, hcz36_2, hcz36_3, hfz36_0, hfz36_1, hfz36_2, hfz36_3⟩ := cl4 BK262
                  go_wp2_with (first | ((with_reducible refine gate_callee (f := 92) rfl ?_); refine gsl (some 56) rfl Try.func92 #[.slice A0 l0.length c0, .string a1_1] rfl ?_; (with_reducible refine (spec_PairDrop.calls kj21 _ _ l0 a1_1 t275 t276 _ ?side1 ?side2 A35.out).mono ?_); (case side1 => exact cc (Kd.C_below HR0.out HB.out)); (case side2 => exact HC0.out); rintro e w37 ⟨v277, rfl, ho0, hb⟩; refine ⟨_, rfl, ?_⟩; have n0_ := Aside0.mk (Kd.R_elder' (kr HO_6.out) (Kd.R_base ho0) hb); have n1_ := Aside0.mk (Kd.R_lower (Kd.R_new' ho0 (Kd.R_lt (kr HO_6.out))) (below_size (bp HB.out))); have n2_ := an1 BK262 hb; have n3_ := an0 HB hb; clear HO_6; clear BK262; clear HB; have HO_6 := n0_; have HO278 := n1_; have BK262 := n2_; have HB := n3_; clear n0_ n1_ n2_ n3_; (try clear hb); (try clear hb2); (try clear hk); (try clear hi); (try clear ho0)))
                  go_ret2
                  exact ⟨_, fe, by (with_reducible repeat (first | apply Kd.R_alloc | apply Kd.R_drewN | apply Kd.R_drew)); exact Kd.R_mono HO278.out (fun _ hk => trivial), bp HB.out⟩
                · rw [if_neg c34] at H
                  have c34b0 : (a1_0 == 3) = false := beq_eq_false_iff_ne.mpr c34
                  have c34b1 : (a1_0 != 3) = true := bne_iff_ne.mpr c34
                  by_cases c38 : t274 < 0
                  · rw [if_pos c38] at H
                    have c38b0 : decide (t274 < 0) = true := decide_eq_true c38
                    clear c38
                    by_cases c39 : (l0.length : Int) ≥ 8
                    · rw [if_pos c39] at H
                      have c39b0 : decide (8 ≤ (l0.length : Int)) = true := decide_eq_true c39
                      have c39b1 : decide (8 ≤ l0.length) = true := decide_eq_true (by omega)
                      clear c39
                      simp only [Option.some.injEq, Prod.mk.injEq] at H
                      obtain ⟨rfl, rfl⟩ := H
                      obtain ⟨hcz40_0, hcz40_1, hcz40_2, hcz40_3, hfz40_0, hfz40_1, hfz40_2, hfz40_3⟩ := cl4 BK262
                      go_wp2
                      go_ret2
                      exact ⟨_, fe, by (with_reducible repeat (first | apply Kd.R_alloc | apply Kd.R_drewN | apply Kd.R_drew)); exact HO_6.out, bp HB.out⟩
                    · rw [if_neg c39] at H
                      have c39b0 : decide (8 ≤ (l0.length : Int)) = false := decide_eq_false c39
                      have c39b1 : decide (8 ≤ l0.length) = false := decide_eq_false (by omega)
                      clear c39
                      replace H := Option.bind_eq_some_iff.mp H
                      obtain ⟨⟨t279, t280⟩, A410, H⟩ := H
                      replace H : (some (t279, t274)) = some (r1, r2) := H
                      have A41 := Aside0.mk A410
                      clear A410
                      simp only [Option.some.injEq, Prod.mk.injEq] at H
                      obtain ⟨rfl, rfl⟩ := H
                      obtain ⟨hcz42_0, hcz42_1, hcz42_2, hcz42_3, hfz42_0, hfz42_1, hfz42_2, hfz42_3⟩ := cl4 BK262
                      go_wp2_with (first | ((with_reducible refine gate_callee (f := 93) rfl ?_); refine gsl (some 75) rfl Try.func93 #[.slice A0 l0.length c0, .string a1_1, .int .i64 a1_2] rfl ?_; (with_reducible refine (spec_PairPut.calls kj21 _ _ l0 a1_1 a1_2 t279 t280 _ ?side1 ?side2 A41.out).mono ?_); (case side1 => exact cc (Kd.C_below HR0.out HB.out)); (case side2 => exact HC0.out); rintro e w43 ⟨v281, rfl, ho0, hb⟩; refine ⟨_, rfl, ?_⟩; have n0_ := Aside0.mk (Kd.R_elder' (kr HO_6.out) (Kd.R_base ho0) hb); have n1_ := Aside0.mk (Kd.R_lower (Kd.R_new' ho0 (Kd.R_lt (kr HO_6.out))) (below_size (bp HB.out))); have n2_ := an1 BK262 hb; have n3_ := an0 HB hb; clear HO_6; clear BK262; clear HB; have HO_6 := n0_; have HO282 := n1_; have BK262 := n2_; have HB := n3_; clear n0_ n1_ n2_ n3_; (try clear hb); (try clear hb2); (try clear hk); (try clear hi); (try clear ho0)))
                      go_ret2
                      exact ⟨_, fe, by (with_reducible repeat (first | apply Kd.R_alloc | apply Kd.R_drewN | apply Kd.R_drew)); exact Kd.R_mono HO282.out (fun _ hk => trivial), bp HB.out⟩
                  · rw [if_neg c38] at H
                    have c38b0 : decide (t274 < 0) = false := decide_eq_false c38
                    clear c38
                    replace H := Option.bind_eq_some_iff.mp H
                    obtain ⟨⟨t283, t284⟩, A440, H⟩ := H
                    replace H : (some (t283, t274)) = some (r1, r2) := H
                    have A44 := Aside0.mk A440
                    clear A440
                    simp only [Option.some.injEq, Prod.mk.injEq] at H
                    obtain ⟨rfl, rfl⟩ := H
                    obtain ⟨hcz45_0, hcz45_1, hcz45_2, hcz45_3, hfz45_0, hfz45_1, hfz45_2, hfz45_3⟩ := cl4 BK262
                    go_wp2_with (first | ((with_reducible refine gate_callee (f := 93) rfl ?_); refine gsl (some 75) rfl Try.func93 #[.slice A0 l0.length c0, .string a1_1, .int .i64 a1_2] rfl ?_; (with_reducible refine (spec_PairPut.calls kj21 _ _ l0 a1_1 a1_2 t283 t284 _ ?side1 ?side2 A44.out).mono ?_); (case side1 => exact cc (Kd.C_below HR0.out HB.out)); (case side2 => exact HC0.out); rintro e w46 ⟨v285, rfl, ho0, hb⟩; refine ⟨_, rfl, ?_⟩; have n0_ := Aside0.mk (Kd.R_elder' (kr HO_6.out) (Kd.R_base ho0) hb); have n1_ := Aside0.mk (Kd.R_lower (Kd.R_new' ho0 (Kd.R_lt (kr HO_6.out))) (below_size (bp HB.out))); have n2_ := an1 BK262 hb; have n3_ := an0 HB hb; clear HO_6; clear BK262; clear HB; have HO_6 := n0_; have HO286 := n1_; have BK262 := n2_; have HB := n3_; clear n0_ n1_ n2_ n3_; (try clear hb); (try clear hb2); (try clear hk); (try clear hi); (try clear ho0)))
                    go_ret2
                    exact ⟨_, fe, by (with_reducible repeat (first | apply Kd.R_alloc | apply Kd.R_drewN | apply Kd.R_drew)); exact Kd.R_mono HO286.out (fun _ hk => trivial), bp HB.out⟩
        · rw [if_neg c20] at H
          exact absurd H (by simp)

end Go.Proofs.Ytfeeifefmenlmaa.PFnRealTime
