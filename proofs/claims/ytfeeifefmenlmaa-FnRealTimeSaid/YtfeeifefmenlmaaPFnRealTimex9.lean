-- Written by a program of this session, in the manner of the kit's print (wip/pp.py): functions and their contracts.
import Derived.Test.YtfeeifefmenlmaaPFnRealTimex0
import Derived.Test.YtfeeifefmenlmaaPFnRealTimex1
import Derived.Test.YtfeeifefmenlmaaPFnRealTimex8
namespace Go.Proofs.Ytfeeifefmenlmaa.PFnRealTime
open Go.RowKit Go.Proofs.YtfeeifefmenlmaaW.PrintWords Go.Proofs.YtfeeifefmenlmaaW.PrintLast Go.Proofs.YtfeeifefmenlmaaW.PrintMore
attribute [local go_sem] binOp_leq_str binOp_gtr_str binOp_geq_str max2_int min2_int max_two min_two max_three min_three max_four min_four   -- for this text's walks alone
set_option linter.unusedVariables false
set_option linter.unusedSimpArgs false

/-! ### impl_valueValid: function 75 -/
def impl_valueValid.f (a0 : Int) : Option (Bool) := if a0 ≥ 0 then (some (decide (a0 ≤ 999))) else (some false)
set_option maxHeartbeats 8000000 in
set_option maxRecDepth 100000 in
theorem impl_valueValid.calls (a0 : Int) (r : Bool) (w : World) (h : impl_valueValid.f a0 = some r) :
    Calls Try.prog 75 #[.int .i64 a0] w fun e w' => e = .returned (.bool r) ∧ Drawn0 w w' := by
  have H : (if a0 ≥ 0 then (some (decide (a0 ≤ 999))) else (some false)) = some r := h
  clear h
  by_cases c2 : a0 ≥ 0
  · rw [if_pos c2] at H
    have c2b0 : decide (0 ≤ a0) = true := decide_eq_true c2
    clear c2
    obtain rfl := Option.some.inj H
    go_enter Try.func75, Try.ntmps75
    go_wp2
    go_ret
    exact ⟨by first | rfl | (simp; done) | (simp [*]; done) | (simp [bne_nil_, beq_nil_]; done), by repeat (first | exact Drawn0.refl _ | apply Drawn0.step)⟩
  · rw [if_neg c2] at H
    have c2b0 : decide (0 ≤ a0) = false := decide_eq_false c2
    clear c2
    obtain rfl := Option.some.inj H
    go_enter Try.func75, Try.ntmps75
    go_wp2
    go_ret
    exact ⟨by first | rfl | (simp; done) | (simp [*]; done) | (simp [bne_nil_, beq_nil_]; done), by repeat (first | exact Drawn0.refl _ | apply Drawn0.step)⟩

/-! ### impl_CommandValid: function 135 -/
mutual
def impl_CommandValid.j0 : Nat → Bool → Int → ByteArray → Int → Int → Option (Bool)
  | 0, _, _, _, _, _ => none
  | k + 1, x10, x434000, x434001, x434002, x434003 => if x10 = true then (some false) else ((impl_KeyValid.f k x434001).bind fun t434 => (if t434 = true then (impl_CommandValid.j1 k false x434000 x434001 x434002 x434003) else (if x434000 = 5 then (impl_CommandValid.j1 k (x434001.toList != ([] : List UInt8)) x434000 x434001 x434002 x434003) else (impl_CommandValid.j1 k true x434000 x434001 x434002 x434003))))
def impl_CommandValid.j1 : Nat → Bool → Int → ByteArray → Int → Int → Option (Bool)
  | 0, _, _, _, _, _ => none
  | k + 1, x24, x434000, x434001, x434002, x434003 => if x24 = true then (some false) else (if x434000 = 2 then ((impl_valueValid.f x434002).bind fun t435 => (if t435 = true then (some (x434003 == 0)) else (some false))) else (if x434000 = 4 then ((impl_valueValid.f x434002).bind fun t436 => (if t436 = true then (if x434003 = (-1) then (some true) else ((impl_valueValid.f x434003).bind fun t437 => (some t437))) else (some false))) else (if x434002 = 0 then (some (x434003 == 0)) else (some false))))
end
def impl_CommandValid.f (k : Nat) (a0_0 : Int) (a0_1 : ByteArray) (a0_2 : Int) (a0_3 : Int) : Option (Bool) := if a0_0 < 1 then (impl_CommandValid.j0 k true a0_0 a0_1 a0_2 a0_3) else (impl_CommandValid.j0 k (decide (a0_0 > 5)) a0_0 a0_1 a0_2 a0_3)
theorem impl_CommandValid.mono_l : ∀ k, (∀ y0 y1 y2 y3 y4, LeO (impl_CommandValid.j0 k y0 y1 y2 y3 y4) (impl_CommandValid.j0 (k + 1) y0 y1 y2 y3 y4)) ∧ (∀ y0 y1 y2 y3 y4, LeO (impl_CommandValid.j1 k y0 y1 y2 y3 y4) (impl_CommandValid.j1 (k + 1) y0 y1 y2 y3 y4))
  | 0 => ⟨fun _ _ _ _ _ r h => by simp [impl_CommandValid.j0] at h, fun _ _ _ _ _ r h => by simp [impl_CommandValid.j1] at h⟩
  | k + 1 => by
    obtain ⟨ih0, ih1⟩ := impl_CommandValid.mono_l k
    refine ⟨?_, ?_⟩
    · intro y0 y1 y2 y3 y4
      unfold impl_CommandValid.j0
      repeat' first
      | (with_reducible exact ih0 _ _ _ _ _)
      | (with_reducible exact ih1 _ _ _ _ _)
      | (with_reducible exact impl_KeyValid.mono _ _)
      | (with_reducible exact LeO.refl _)
      | (with_reducible exact LeO.none _)
      | (with_reducible refine LeO.ite ?_ ?_)
      | (with_reducible refine LeO.bind ?_ (fun _ => ?_))
      | exact ih0 _ _ _ _ _
      | exact ih1 _ _ _ _ _
      | exact impl_KeyValid.mono _ _
      | exact LeO.none _
      | refine LeO.ite ?_ ?_
      | refine LeO.bind ?_ (fun _ => ?_)
    · intro y0 y1 y2 y3 y4
      unfold impl_CommandValid.j1
      repeat' first
      | (with_reducible exact ih0 _ _ _ _ _)
      | (with_reducible exact ih1 _ _ _ _ _)
      | (with_reducible exact impl_KeyValid.mono _ _)
      | (with_reducible exact LeO.refl _)
      | (with_reducible exact LeO.none _)
      | (with_reducible refine LeO.ite ?_ ?_)
      | (with_reducible refine LeO.bind ?_ (fun _ => ?_))
      | exact ih0 _ _ _ _ _
      | exact ih1 _ _ _ _ _
      | exact impl_KeyValid.mono _ _
      | exact LeO.none _
      | refine LeO.ite ?_ ?_
      | refine LeO.bind ?_ (fun _ => ?_)
theorem impl_CommandValid.mono : ∀ a0 a1 a2 a3 k, LeO (impl_CommandValid.f k a0 a1 a2 a3) (impl_CommandValid.f (k + 1) a0 a1 a2 a3) := by
  intro a0 a1 a2 a3 k
  obtain ⟨ih0, ih1⟩ := impl_CommandValid.mono_l k
  unfold impl_CommandValid.f
  repeat' first
      | (with_reducible exact ih0 _ _ _ _ _)
      | (with_reducible exact ih1 _ _ _ _ _)
      | (with_reducible exact impl_KeyValid.mono _ _)
      | (with_reducible exact LeO.refl _)
      | (with_reducible exact LeO.none _)
      | (with_reducible refine LeO.ite ?_ ?_)
      | (with_reducible refine LeO.bind ?_ (fun _ => ?_))
      | exact ih0 _ _ _ _ _
      | exact ih1 _ _ _ _ _
      | exact impl_KeyValid.mono _ _
      | exact LeO.none _
      | refine LeO.ite ?_ ?_
      | refine LeO.bind ?_ (fun _ => ?_)
set_option maxHeartbeats 8000000 in
set_option maxRecDepth 100000 in
theorem impl_CommandValid.calls (k : Nat) (a0_0 : Int) (a0_1 : ByteArray) (a0_2 : Int) (a0_3 : Int) (r : Bool) (w : World) (h : impl_CommandValid.f k a0_0 a0_1 a0_2 a0_3 = some r) :
    Calls Try.prog 135 #[.agg #[.int .i64 a0_0, .string a0_1, .int .i64 a0_2, .int .i64 a0_3]] w fun e w' => e = .returned (.bool r) ∧ Below w.heap.size w w' := by
  have hu40 := Try.underlying40
  have HB := Aside0.mk (Below.refl w.heap.size w)
  have H : (if a0_0 < 1 then (impl_CommandValid.j0 k true a0_0 a0_1 a0_2 a0_3) else (impl_CommandValid.j0 k (decide (a0_0 > 5)) a0_0 a0_1 a0_2 a0_3)) = some r := h
  clear h
  have HC2 := Aside0.mk H
  clear H
  go_enter Try.func135, Try.ntmps135
  go_upto_region 1 with (first | ((with_reducible refine gate_dst (N := 1) rfl ?_); refine bxe (N := 1) (cs := #[.int .i64 a0_0, .string a0_1, .int .i64 a0_2, .int .i64 a0_3]) (t := 40) ?_; intro gb433 hg w3 hbox hb; have BK433 := Aside0.mk (hbox); have GW433 := an2 HB hg; have GE433 := an2 HB hg; replace HB := an0 HB hb; clear hb hbox hg))
  (try simp only [Act.put, List.setIfInBounds_toArray, List.set_cons_zero, List.set_cons_succ])
  go_cut [10] (fun v10 wc => ∃ (kq : Nat) (x10_1 : Bool), v10 = .bool x10_1 ∧ Aside0 (impl_CommandValid.j0 kq x10_1 a0_0 a0_1 a0_2 a0_3 = some r) ∧ Aside0 (kq ≤ k) ∧ Aside0 (wc.heap[gb433]? = some (.cells #[.int .i64 a0_0, .string a0_1, .int .i64 a0_2, .int .i64 a0_3] 40 (0, 0))) ∧ Aside0 (Below w.heap.size w wc))
  case first =>
    have H := HC2.out
    clear HC2
    by_cases c4 : a0_0 < 1
    · rw [if_pos c4] at H
      have c4b0 : decide (a0_0 < 1) = true := decide_eq_true c4
      clear c4
      (first | rw [c4b0] | (simp only [i64_w, i32_w]; rw [c4b0]) | skip)
      have H' := Aside0.mk H
      clear H
      obtain ⟨hcz5_0, hcz5_1, hcz5_2, hcz5_3, hfz5_0, hfz5_1, hfz5_2, hfz5_3⟩ := cl4 BK433
      go_wp2
      go_meet
      case rel => exact ⟨_, (true), (by first | rfl | (simp; done) | (simp [*]; done) | (simp [bne_nil_, beq_nil_]; done)), H', ⟨by first | omega | exact Nat.le_refl _⟩, ⟨kb BK433.out⟩, ⟨bp HB.out⟩⟩
    · rw [if_neg c4] at H
      have c4b0 : decide (a0_0 < 1) = false := decide_eq_false c4
      clear c4
      (first | rw [c4b0] | (simp only [i64_w, i32_w]; rw [c4b0]) | skip)
      have H' := Aside0.mk H
      clear H
      obtain ⟨hcz6_0, hcz6_1, hcz6_2, hcz6_3, hfz6_0, hfz6_1, hfz6_2, hfz6_3⟩ := cl4 BK433
      go_wp2
      go_meet
      case rel => exact ⟨_, (decide (a0_0 > 5)), (by first | rfl | (simp; done) | (simp [*]; done) | (simp [bne_nil_, beq_nil_]; done)), H', ⟨by first | omega | exact Nat.le_refl _⟩, ⟨kb BK433.out⟩, ⟨bp HB.out⟩⟩
  case rest =>
    clear HC2
    try clear c1
    try clear p2
    try clear c4
    try clear c4b0
    try clear hcz5_0
    try clear hcz5_1
    try clear hcz5_2
    try clear hcz5_3
    try clear hcz6_0
    try clear hcz6_1
    try clear hcz6_2
    try clear hcz6_3
    try clear hfz5_0
    try clear hfz5_1
    try clear hfz5_2
    try clear hfz5_3
    try clear hfz6_0
    try clear hfz6_1
    try clear hfz6_2
    try clear hfz6_3
    obtain ⟨kq, x10_1, rfl, HA, HJ1, BK433, HB⟩ := hcut
    cases kq with
    | zero => exact absurd HA.out (by simp [impl_CommandValid.j0])
    | succ kj1 =>
      have H := HA.out
      clear HA
      simp only [impl_CommandValid.j0] at H
      by_cases c7 : x10_1 = true
      · subst c7
        have H1 : (some false) = some r := by rw [if_pos rfl] at H; exact H
        clear H
        have H := H1
        clear H1
        obtain rfl := Option.some.inj H
        go_wp2
        go_ret
        exact ⟨fe, bp HB.out⟩
      · replace c7 := Bool.eq_false_iff.mpr c7
        subst c7
        have H1 : ((impl_KeyValid.f kj1 a0_1).bind fun t434 => (if t434 = true then (impl_CommandValid.j1 kj1 false a0_0 a0_1 a0_2 a0_3) else (if a0_0 = 5 then (impl_CommandValid.j1 kj1 (a0_1.toList != ([] : List UInt8)) a0_0 a0_1 a0_2 a0_3) else (impl_CommandValid.j1 kj1 true a0_0 a0_1 a0_2 a0_3)))) = some r := by rw [if_neg (show ¬ (false = true) by decide)] at H; exact H
        clear H
        have H := H1
        clear H1
        have HC8 := Aside0.mk H
        clear H
        go_upto_region 3 with (fail)
        go_cut [24] (fun v24 wc => ∃ (kq : Nat) (x24_7 : Bool), v24 = .bool x24_7 ∧ Aside0 (impl_CommandValid.j1 kq x24_7 a0_0 a0_1 a0_2 a0_3 = some r) ∧ Aside0 (kq ≤ kj1) ∧ Aside0 (wc.heap[gb433]? = some (.cells #[.int .i64 a0_0, .string a0_1, .int .i64 a0_2, .int .i64 a0_3] 40 (0, 0))) ∧ Aside0 (Below w.heap.size w wc))
        case first =>
          have H := HC8.out
          clear HC8
          replace H := Option.bind_eq_some_iff.mp H
          obtain ⟨t434, A90, H⟩ := H
          replace H : (if t434 = true then (impl_CommandValid.j1 kj1 false a0_0 a0_1 a0_2 a0_3) else (if a0_0 = 5 then (impl_CommandValid.j1 kj1 (a0_1.toList != ([] : List UInt8)) a0_0 a0_1 a0_2 a0_3) else (impl_CommandValid.j1 kj1 true a0_0 a0_1 a0_2 a0_3))) = some r := H
          have A9 := Aside0.mk A90
          clear A90
          by_cases c10 : t434 = true
          · subst c10
            have H1 : (impl_CommandValid.j1 kj1 false a0_0 a0_1 a0_2 a0_3) = some r := by rw [if_pos rfl] at H; exact H
            clear H
            have H := H1
            clear H1
            have H' := Aside0.mk H
            clear H
            obtain ⟨hcz11_0, hcz11_1, hcz11_2, hcz11_3, hfz11_0, hfz11_1, hfz11_2, hfz11_3⟩ := cl4 BK433
            go_wp2_with (first | ((with_reducible refine gate_callee (f := 74) rfl ?_); refine gsl (some 13) rfl Try.func74 #[.string a0_1] rfl ?_; (with_reducible refine (impl_KeyValid.calls kj1 a0_1 true _ A9.out).mono ?_); rintro e w' ⟨rfl, ⟨nd, rfl⟩⟩; refine ⟨_, rfl, ?_⟩))
            go_meet
            case rel => exact ⟨_, (false), (by first | rfl | (simp; done) | (simp [*]; done) | (simp [bne_nil_, beq_nil_]; done)), H', ⟨by have := HJ1.out; first | omega | exact Nat.le_refl _⟩, ⟨kb BK433.out⟩, ⟨bp HB.out⟩⟩
          · replace c10 := Bool.eq_false_iff.mpr c10
            subst c10
            have H1 : (if a0_0 = 5 then (impl_CommandValid.j1 kj1 (a0_1.toList != ([] : List UInt8)) a0_0 a0_1 a0_2 a0_3) else (impl_CommandValid.j1 kj1 true a0_0 a0_1 a0_2 a0_3)) = some r := by rw [if_neg (show ¬ (false = true) by decide)] at H; exact H
            clear H
            have H := H1
            clear H1
            by_cases c12 : a0_0 = 5
            · rw [if_pos c12] at H
              have c12b0 : (a0_0 == 5) = true := beq_iff_eq.mpr c12
              have c12b1 : (a0_0 != 5) = false := bne_eq_false_iff_eq.mpr c12
              clear c12
              (first | rw [c12b0] | (simp only [i64_w, i32_w]; rw [c12b0]) | skip)
              have H' := Aside0.mk H
              clear H
              obtain ⟨hcz13_0, hcz13_1, hcz13_2, hcz13_3, hfz13_0, hfz13_1, hfz13_2, hfz13_3⟩ := cl4 BK433
              go_wp2_with (first | ((with_reducible refine gate_callee (f := 74) rfl ?_); refine gsl (some 13) rfl Try.func74 #[.string a0_1] rfl ?_; (with_reducible refine (impl_KeyValid.calls kj1 a0_1 false _ A9.out).mono ?_); rintro e w' ⟨rfl, ⟨nd, rfl⟩⟩; refine ⟨_, rfl, ?_⟩))
              go_meet
              case rel => exact ⟨_, ((a0_1.toList != ([] : List UInt8))), (by first | rfl | (simp; done) | (simp [*]; done) | (simp [bne_nil_, beq_nil_]; done)), H', ⟨by have := HJ1.out; first | omega | exact Nat.le_refl _⟩, ⟨kb BK433.out⟩, ⟨bp HB.out⟩⟩
            · rw [if_neg c12] at H
              have c12b0 : (a0_0 == 5) = false := beq_eq_false_iff_ne.mpr c12
              have c12b1 : (a0_0 != 5) = true := bne_iff_ne.mpr c12
              (first | rw [c12b0] | (simp only [i64_w, i32_w]; rw [c12b0]) | skip)
              have H' := Aside0.mk H
              clear H
              obtain ⟨hcz14_0, hcz14_1, hcz14_2, hcz14_3, hfz14_0, hfz14_1, hfz14_2, hfz14_3⟩ := cl4 BK433
              go_wp2_with (first | ((with_reducible refine gate_callee (f := 74) rfl ?_); refine gsl (some 13) rfl Try.func74 #[.string a0_1] rfl ?_; (with_reducible refine (impl_KeyValid.calls kj1 a0_1 false _ A9.out).mono ?_); rintro e w' ⟨rfl, ⟨nd, rfl⟩⟩; refine ⟨_, rfl, ?_⟩))
              go_meet
              case rel => exact ⟨_, (true), (by first | rfl | (simp; done) | (simp [*]; done) | (simp [bne_nil_, beq_nil_]; done)), H', ⟨by have := HJ1.out; first | omega | exact Nat.le_refl _⟩, ⟨kb BK433.out⟩, ⟨bp HB.out⟩⟩
        case rest =>
          clear HC8
          try clear c1
          try clear p2
          try clear c4
          try clear c4b0
          try clear p6
          try clear c7
          try clear c10
          try clear c12
          try clear c12b0
          try clear c12b1
          try clear c13
          try clear hcz11_0
          try clear hcz11_1
          try clear hcz11_2
          try clear hcz11_3
          try clear hcz13_0
          try clear hcz13_1
          try clear hcz13_2
          try clear hcz13_3
          try clear hcz14_0
          try clear hcz14_1
          try clear hcz14_2
          try clear hcz14_3
          try clear hcz5_0
          try clear hcz5_1
          try clear hcz5_2
          try clear hcz5_3
          try clear hcz6_0
          try clear hcz6_1
          try clear hcz6_2
          try clear hcz6_3
          try clear hfz11_0
          try clear hfz11_1
          try clear hfz11_2
          try clear hfz11_3
          try clear hfz13_0
          try clear hfz13_1
          try clear hfz13_2
          try clear hfz13_3
          try clear hfz14_0
          try clear hfz14_1
          try clear hfz14_2
          try clear hfz14_3
          try clear hfz5_0
          try clear hfz5_1
          try clear hfz5_2
          try clear hfz5_3
          try clear hfz6_0
          try clear hfz6_1
          try clear hfz6_2
          try clear hfz6_3
          try clear p2
          obtain ⟨kq, x24_7, rfl, HA, HJ7, BK433, HB⟩ := hcut
          cases kq with
          | zero => exact absurd HA.out (by simp [impl_CommandValid.j1])
          | succ kj7 =>
            have H := HA.out
            clear HA
            simp only [impl_CommandValid.j1] at H
            by_cases c15 : x24_7 = true
            · subst c15
              have H1 : (some false) = some r := by rw [if_pos rfl] at H; exact H
              clear H
              have H := H1
              clear H1
              obtain rfl := Option.some.inj H
              go_wp2
              go_ret
              exact ⟨fe, bp HB.out⟩
            · replace c15 := Bool.eq_false_iff.mpr c15
              subst c15
              have H1 : (if a0_0 = 2 then ((impl_valueValid.f a0_2).bind fun t435 => (if t435 = true then (some (a0_3 == 0)) else (some false))) else (if a0_0 = 4 then ((impl_valueValid.f a0_2).bind fun t436 => (if t436 = true then (if a0_3 = (-1) then (some true) else ((impl_valueValid.f a0_3).bind fun t437 => (some t437))) else (some false))) else (if a0_2 = 0 then (some (a0_3 == 0)) else (some false)))) = some r := by rw [if_neg (show ¬ (false = true) by decide)] at H; exact H
              clear H
              have H := H1
              clear H1
              by_cases c16 : a0_0 = 2
              · rw [if_pos c16] at H
                have c16b0 : (a0_0 == 2) = true := beq_iff_eq.mpr c16
                have c16b1 : (a0_0 != 2) = false := bne_eq_false_iff_eq.mpr c16
                clear c16
                replace H := Option.bind_eq_some_iff.mp H
                obtain ⟨t435, A170, H⟩ := H
                replace H : (if t435 = true then (some (a0_3 == 0)) else (some false)) = some r := H
                have A17 := Aside0.mk A170
                clear A170
                by_cases c18 : t435 = true
                · subst c18
                  have H1 : (some (a0_3 == 0)) = some r := by rw [if_pos rfl] at H; exact H
                  clear H
                  have H := H1
                  clear H1
                  obtain rfl := Option.some.inj H
                  obtain ⟨hcz19_0, hcz19_1, hcz19_2, hcz19_3, hfz19_0, hfz19_1, hfz19_2, hfz19_3⟩ := cl4 BK433
                  go_wp2_with (first | ((with_reducible refine gate_callee (f := 75) rfl ?_); refine gsl (some 31) rfl Try.func75 #[.int .i64 a0_2] rfl ?_; (with_reducible refine (impl_valueValid.calls a0_2 true _ A17.out).mono ?_); rintro e w' ⟨rfl, ⟨nd, rfl⟩⟩; refine ⟨_, rfl, ?_⟩))
                  go_ret
                  exact ⟨fe, bp HB.out⟩
                · replace c18 := Bool.eq_false_iff.mpr c18
                  subst c18
                  have H1 : (some false) = some r := by rw [if_neg (show ¬ (false = true) by decide)] at H; exact H
                  clear H
                  have H := H1
                  clear H1
                  obtain rfl := Option.some.inj H
                  obtain ⟨hcz20_0, hcz20_1, hcz20_2, hcz20_3, hfz20_0, hfz20_1, hfz20_2, hfz20_3⟩ := cl4 BK433
                  go_wp2_with (first | ((with_reducible refine gate_callee (f := 75) rfl ?_); refine gsl (some 31) rfl Try.func75 #[.int .i64 a0_2] rfl ?_; (with_reducible refine (impl_valueValid.calls a0_2 false _ A17.out).mono ?_); rintro e w' ⟨rfl, ⟨nd, rfl⟩⟩; refine ⟨_, rfl, ?_⟩))
                  go_ret
                  exact ⟨fe, bp HB.out⟩
              · rw [if_neg c16] at H
                have c16b0 : (a0_0 == 2) = false := beq_eq_false_iff_ne.mpr c16
                have c16b1 : (a0_0 != 2) = true := bne_iff_ne.mpr c16
                by_cases c21 : a0_0 = 4
                · rw [if_pos c21] at H
                  have c21b0 : (a0_0 == 4) = true := beq_iff_eq.mpr c21
                  have c21b1 : (a0_0 != 4) = false := bne_eq_false_iff_eq.mpr c21
                  clear c21
                  replace H := Option.bind_eq_some_iff.mp H
                  obtain ⟨t436, A220, H⟩ := H
                  replace H : (if t436 = true then (if a0_3 = (-1) then (some true) else ((impl_valueValid.f a0_3).bind fun t437 => (some t437))) else (some false)) = some r := H
                  have A22 := Aside0.mk A220
                  clear A220
                  by_cases c23 : t436 = true
                  · subst c23
                    have H1 : (if a0_3 = (-1) then (some true) else ((impl_valueValid.f a0_3).bind fun t437 => (some t437))) = some r := by rw [if_pos rfl] at H; exact H
                    clear H
                    have H := H1
                    clear H1
                    by_cases c24 : a0_3 = (-1)
                    · rw [if_pos c24] at H
                      have c24b0 : (a0_3 == (-1)) = true := beq_iff_eq.mpr c24
                      have c24b1 : (a0_3 != (-1)) = false := bne_eq_false_iff_eq.mpr c24
                      clear c24
                      obtain rfl := Option.some.inj H
                      obtain ⟨hcz25_0, hcz25_1, hcz25_2, hcz25_3, hfz25_0, hfz25_1, hfz25_2, hfz25_3⟩ := cl4 BK433
                      go_wp2_with (first | ((with_reducible refine gate_callee (f := 75) rfl ?_); refine gsl (some 41) rfl Try.func75 #[.int .i64 a0_2] rfl ?_; (with_reducible refine (impl_valueValid.calls a0_2 true _ A22.out).mono ?_); rintro e w' ⟨rfl, ⟨nd, rfl⟩⟩; refine ⟨_, rfl, ?_⟩))
                      go_ret
                      exact ⟨fe, bp HB.out⟩
                    · rw [if_neg c24] at H
                      have c24b0 : (a0_3 == (-1)) = false := beq_eq_false_iff_ne.mpr c24
                      have c24b1 : (a0_3 != (-1)) = true := bne_iff_ne.mpr c24
                      replace H := Option.bind_eq_some_iff.mp H
                      obtain ⟨t437, A260, H⟩ := H
                      replace H : (some t437) = some r := H
                      have A26 := Aside0.mk A260
                      clear A260
                      obtain rfl := Option.some.inj H
                      obtain ⟨hcz27_0, hcz27_1, hcz27_2, hcz27_3, hfz27_0, hfz27_1, hfz27_2, hfz27_3⟩ := cl4 BK433
                      go_wp2_with (first | ((with_reducible refine gate_callee (f := 75) rfl ?_); refine gsl (some 41) rfl Try.func75 #[.int .i64 a0_2] rfl ?_; (with_reducible refine (impl_valueValid.calls a0_2 true _ A22.out).mono ?_); rintro e w' ⟨rfl, ⟨nd, rfl⟩⟩; refine ⟨_, rfl, ?_⟩) | (go_at_call 75; (with_reducible refine (impl_valueValid.calls a0_3 t437 _ A26.out).mono ?_); rintro e w' ⟨rfl, ⟨nd, rfl⟩⟩))
                      go_ret
                      exact ⟨fe, bp HB.out⟩
                  · replace c23 := Bool.eq_false_iff.mpr c23
                    subst c23
                    have H1 : (some false) = some r := by rw [if_neg (show ¬ (false = true) by decide)] at H; exact H
                    clear H
                    have H := H1
                    clear H1
                    obtain rfl := Option.some.inj H
                    obtain ⟨hcz28_0, hcz28_1, hcz28_2, hcz28_3, hfz28_0, hfz28_1, hfz28_2, hfz28_3⟩ := cl4 BK433
                    go_wp2_with (first | ((with_reducible refine gate_callee (f := 75) rfl ?_); refine gsl (some 41) rfl Try.func75 #[.int .i64 a0_2] rfl ?_; (with_reducible refine (impl_valueValid.calls a0_2 false _ A22.out).mono ?_); rintro e w' ⟨rfl, ⟨nd, rfl⟩⟩; refine ⟨_, rfl, ?_⟩))
                    go_ret
                    exact ⟨fe, bp HB.out⟩
                · rw [if_neg c21] at H
                  have c21b0 : (a0_0 == 4) = false := beq_eq_false_iff_ne.mpr c21
                  have c21b1 : (a0_0 != 4) = true := bne_iff_ne.mpr c21
                  by_cases c29 : a0_2 = 0
                  · rw [if_pos c29] at H
                    have c29b0 : (a0_2 == 0) = true := beq_iff_eq.mpr c29
                    have c29b1 : (a0_2 != 0) = false := bne_eq_false_iff_eq.mpr c29
                    clear c29
                    obtain rfl := Option.some.inj H
                    obtain ⟨hcz30_0, hcz30_1, hcz30_2, hcz30_3, hfz30_0, hfz30_1, hfz30_2, hfz30_3⟩ := cl4 BK433
                    go_wp2
                    go_ret
                    exact ⟨fe, bp HB.out⟩
                  · rw [if_neg c29] at H
                    have c29b0 : (a0_2 == 0) = false := beq_eq_false_iff_ne.mpr c29
                    have c29b1 : (a0_2 != 0) = true := bne_iff_ne.mpr c29
                    obtain rfl := Option.some.inj H
                    obtain ⟨hcz31_0, hcz31_1, hcz31_2, hcz31_3, hfz31_0, hfz31_1, hfz31_2, hfz31_3⟩ := cl4 BK433
                    go_wp2
                    go_ret
                    exact ⟨fe, bp HB.out⟩

/-! ### impl_wishValid: function 86 -/
def impl_wishValid.f (k : Nat) (a0_0 : Int) (a0_1 : ByteArray) (a0_2 : Int) (a0_3 : Int) : Option (Bool) := (impl_CommandValid.f k a0_0 a0_1 a0_2 a0_3).bind fun t439 => (if t439 = true then (some (a0_0 != 5)) else (some false))
theorem impl_wishValid.mono : ∀ a0 a1 a2 a3 k, LeO (impl_wishValid.f k a0 a1 a2 a3) (impl_wishValid.f (k + 1) a0 a1 a2 a3) := by
  intro a0 a1 a2 a3 k
  unfold impl_wishValid.f
  repeat' first
      | (with_reducible exact impl_CommandValid.mono _ _ _ _ _)
      | (with_reducible exact LeO.refl _)
      | (with_reducible exact LeO.none _)
      | (with_reducible refine LeO.ite ?_ ?_)
      | (with_reducible refine LeO.bind ?_ (fun _ => ?_))
      | exact impl_CommandValid.mono _ _ _ _ _
      | exact LeO.none _
      | refine LeO.ite ?_ ?_
      | refine LeO.bind ?_ (fun _ => ?_)
set_option maxHeartbeats 8000000 in
set_option maxRecDepth 100000 in
theorem impl_wishValid.calls (k : Nat) (a0_0 : Int) (a0_1 : ByteArray) (a0_2 : Int) (a0_3 : Int) (r : Bool) (w : World) (h : impl_wishValid.f k a0_0 a0_1 a0_2 a0_3 = some r) :
    Calls Try.prog 86 #[.agg #[.int .i64 a0_0, .string a0_1, .int .i64 a0_2, .int .i64 a0_3]] w fun e w' => e = .returned (.bool r) ∧ Below w.heap.size w w' := by
  have hu40 := Try.underlying40
  have HB := Aside0.mk (Below.refl w.heap.size w)
  have H : ((impl_CommandValid.f k a0_0 a0_1 a0_2 a0_3).bind fun t439 => (if t439 = true then (some (a0_0 != 5)) else (some false))) = some r := h
  clear h
  replace H := Option.bind_eq_some_iff.mp H
  obtain ⟨t439, A20, H⟩ := H
  replace H : (if t439 = true then (some (a0_0 != 5)) else (some false)) = some r := H
  have A2 := Aside0.mk A20
  clear A20
  by_cases c3 : t439 = true
  · subst c3
    have H1 : (some (a0_0 != 5)) = some r := by rw [if_pos rfl] at H; exact H
    clear H
    have H := H1
    clear H1
    obtain rfl := Option.some.inj H
    go_enter Try.func86, Try.ntmps86
    go_wp2_with (first | ((with_reducible refine gate_dst (N := 1) rfl ?_); refine bxe (N := 1) (cs := #[.int .i64 a0_0, .string a0_1, .int .i64 a0_2, .int .i64 a0_3]) (t := 40) ?_; intro gb438 hg w4 hbox hb; have BK438 := Aside0.mk (hbox); have GW438 := an2 HB hg; have GE438 := an2 HB hg; replace HB := an0 HB hb; clear hb hbox hg; obtain ⟨hcz5_0, hcz5_1, hcz5_2, hcz5_3, hfz5_0, hfz5_1, hfz5_2, hfz5_3⟩ := cl4 BK438) | ((with_reducible refine gate_callee (f := 135) rfl ?_); refine gsl (some 4) rfl Try.func135 #[.agg #[.int .i64 a0_0, .string a0_1, .int .i64 a0_2, .int .i64 a0_3]] rfl ?_; (with_reducible refine (impl_CommandValid.calls k a0_0 a0_1 a0_2 a0_3 true _ A2.out).mono ?_); rintro e w6 ⟨rfl, hb⟩; refine ⟨_, rfl, ?_⟩; replace BK438 := an1 BK438 hb; replace HB := an0 HB hb; (try clear hb); (try clear hb2); (try clear hk); (try clear hi); obtain ⟨hcz7_0, hcz7_1, hcz7_2, hcz7_3, hfz7_0, hfz7_1, hfz7_2, hfz7_3⟩ := cl4 BK438))
    go_ret
    exact ⟨fe, bp HB.out⟩
  · replace c3 := Bool.eq_false_iff.mpr c3
    subst c3
    have H1 : (some false) = some r := by rw [if_neg (show ¬ (false = true) by decide)] at H; exact H
    clear H
    have H := H1
    clear H1
    obtain rfl := Option.some.inj H
    go_enter Try.func86, Try.ntmps86
    go_wp2_with (first | ((with_reducible refine gate_dst (N := 1) rfl ?_); refine bxe (N := 1) (cs := #[.int .i64 a0_0, .string a0_1, .int .i64 a0_2, .int .i64 a0_3]) (t := 40) ?_; intro gb438 hg w8 hbox hb; have BK438 := Aside0.mk (hbox); have GW438 := an2 HB hg; have GE438 := an2 HB hg; replace HB := an0 HB hb; clear hb hbox hg; obtain ⟨hcz9_0, hcz9_1, hcz9_2, hcz9_3, hfz9_0, hfz9_1, hfz9_2, hfz9_3⟩ := cl4 BK438) | ((with_reducible refine gate_callee (f := 135) rfl ?_); refine gsl (some 4) rfl Try.func135 #[.agg #[.int .i64 a0_0, .string a0_1, .int .i64 a0_2, .int .i64 a0_3]] rfl ?_; (with_reducible refine (impl_CommandValid.calls k a0_0 a0_1 a0_2 a0_3 false _ A2.out).mono ?_); rintro e w10 ⟨rfl, hb⟩; refine ⟨_, rfl, ?_⟩; replace BK438 := an1 BK438 hb; replace HB := an0 HB hb; (try clear hb); (try clear hb2); (try clear hk); (try clear hi)))
    go_ret
    exact ⟨fe, bp HB.out⟩

/-! ### impl_replyValid: function 87 -/
def impl_replyValid.f (a0 : Int) : Option (Bool) := if a0 ≥ (-4) then (some (decide (a0 ≤ 999))) else (some false)
set_option maxHeartbeats 8000000 in
set_option maxRecDepth 100000 in
theorem impl_replyValid.calls (a0 : Int) (r : Bool) (w : World) (h : impl_replyValid.f a0 = some r) :
    Calls Try.prog 87 #[.int .i64 a0] w fun e w' => e = .returned (.bool r) ∧ Drawn0 w w' := by
  have H : (if a0 ≥ (-4) then (some (decide (a0 ≤ 999))) else (some false)) = some r := h
  clear h
  by_cases c2 : a0 ≥ (-4)
  · rw [if_pos c2] at H
    have c2b0 : decide ((-4) ≤ a0) = true := decide_eq_true c2
    clear c2
    obtain rfl := Option.some.inj H
    go_enter Try.func87, Try.ntmps87
    go_wp2
    go_ret
    exact ⟨by first | rfl | (simp; done) | (simp [*]; done) | (simp [bne_nil_, beq_nil_]; done), by repeat (first | exact Drawn0.refl _ | apply Drawn0.step)⟩
  · rw [if_neg c2] at H
    have c2b0 : decide ((-4) ≤ a0) = false := decide_eq_false c2
    clear c2
    obtain rfl := Option.some.inj H
    go_enter Try.func87, Try.ntmps87
    go_wp2
    go_ret
    exact ⟨by first | rfl | (simp; done) | (simp [*]; done) | (simp [bne_nil_, beq_nil_]; done), by repeat (first | exact Drawn0.refl _ | apply Drawn0.step)⟩

/-! ### impl_timeValid: function 88 -/
def impl_timeValid.f (a0 : Int) : Option (Bool) := if a0 ≥ 0 then (some (decide (a0 ≤ 200))) else (some false)
set_option maxHeartbeats 8000000 in
set_option maxRecDepth 100000 in
theorem impl_timeValid.calls (a0 : Int) (r : Bool) (w : World) (h : impl_timeValid.f a0 = some r) :
    Calls Try.prog 88 #[.int .i64 a0] w fun e w' => e = .returned (.bool r) ∧ Drawn0 w w' := by
  have H : (if a0 ≥ 0 then (some (decide (a0 ≤ 200))) else (some false)) = some r := h
  clear h
  by_cases c2 : a0 ≥ 0
  · rw [if_pos c2] at H
    have c2b0 : decide (0 ≤ a0) = true := decide_eq_true c2
    clear c2
    obtain rfl := Option.some.inj H
    go_enter Try.func88, Try.ntmps88
    go_wp2
    go_ret
    exact ⟨by first | rfl | (simp; done) | (simp [*]; done) | (simp [bne_nil_, beq_nil_]; done), by repeat (first | exact Drawn0.refl _ | apply Drawn0.step)⟩
  · rw [if_neg c2] at H
    have c2b0 : decide (0 ≤ a0) = false := decide_eq_false c2
    clear c2
    obtain rfl := Option.some.inj H
    go_enter Try.func88, Try.ntmps88
    go_wp2
    go_ret
    exact ⟨by first | rfl | (simp; done) | (simp [*]; done) | (simp [bne_nil_, beq_nil_]; done), by repeat (first | exact Drawn0.refl _ | apply Drawn0.step)⟩

/-! ### impl_ResultValid: function 24 -/
def impl_ResultValid.f (k : Nat) (a0_0 : Int) (a0_1 : Int) (a0_2 : Int) (a0_3 : ByteArray) (a0_4 : Int) (a0_5 : Int) (a0_6 : Int) (a0_7 : Int) (a0_8 : Int) : Option (Bool) := (impl_clientNumber.f a0_0).bind fun t441 => (if t441 = true then ((impl_seqValid.f a0_1).bind fun t442 => (if t442 = true then ((impl_wishValid.f k a0_2 a0_3 a0_4 a0_5).bind fun t443 => (if t443 = true then ((impl_replyValid.f a0_6).bind fun t444 => (if t444 = true then ((impl_timeValid.f a0_8).bind fun t445 => (if t445 = true then (if a0_7 ≥ 0 then (some (decide (a0_7 ≤ a0_8))) else (some false)) else (some false))) else (some false))) else (some false))) else (some false))) else (some false))
theorem impl_ResultValid.mono : ∀ a0 a1 a2 a3 a4 a5 a6 a7 a8 k, LeO (impl_ResultValid.f k a0 a1 a2 a3 a4 a5 a6 a7 a8) (impl_ResultValid.f (k + 1) a0 a1 a2 a3 a4 a5 a6 a7 a8) := by
  intro a0 a1 a2 a3 a4 a5 a6 a7 a8 k
  unfold impl_ResultValid.f
  repeat' first
      | (with_reducible exact impl_wishValid.mono _ _ _ _ _)
      | (with_reducible exact LeO.refl _)
      | (with_reducible exact LeO.none _)
      | (with_reducible refine LeO.ite ?_ ?_)
      | (with_reducible refine LeO.bind ?_ (fun _ => ?_))
      | exact impl_wishValid.mono _ _ _ _ _
      | exact LeO.none _
      | refine LeO.ite ?_ ?_
      | refine LeO.bind ?_ (fun _ => ?_)
set_option maxHeartbeats 8000000 in
set_option maxRecDepth 100000 in
theorem impl_ResultValid.calls (k : Nat) (a0_0 : Int) (a0_1 : Int) (a0_2 : Int) (a0_3 : ByteArray) (a0_4 : Int) (a0_5 : Int) (a0_6 : Int) (a0_7 : Int) (a0_8 : Int) (r : Bool) (w : World) (h : impl_ResultValid.f k a0_0 a0_1 a0_2 a0_3 a0_4 a0_5 a0_6 a0_7 a0_8 = some r) :
    Calls Try.prog 24 #[.agg #[.int .i64 a0_0, .int .i64 a0_1, .int .i64 a0_2, .string a0_3, .int .i64 a0_4, .int .i64 a0_5, .int .i64 a0_6, .int .i64 a0_7, .int .i64 a0_8]] w fun e w' => e = .returned (.bool r) ∧ Below w.heap.size w w' := by
  have hu42 := Try.underlying42
  have hu40 := Try.underlying40
  have HB := Aside0.mk (Below.refl w.heap.size w)
  have H : ((impl_clientNumber.f a0_0).bind fun t441 => (if t441 = true then ((impl_seqValid.f a0_1).bind fun t442 => (if t442 = true then ((impl_wishValid.f k a0_2 a0_3 a0_4 a0_5).bind fun t443 => (if t443 = true then ((impl_replyValid.f a0_6).bind fun t444 => (if t444 = true then ((impl_timeValid.f a0_8).bind fun t445 => (if t445 = true then (if a0_7 ≥ 0 then (some (decide (a0_7 ≤ a0_8))) else (some false)) else (some false))) else (some false))) else (some false))) else (some false))) else (some false))) = some r := h
  clear h
  replace H := Option.bind_eq_some_iff.mp H
  obtain ⟨t441, A20, H⟩ := H
  replace H : (if t441 = true then ((impl_seqValid.f a0_1).bind fun t442 => (if t442 = true then ((impl_wishValid.f k a0_2 a0_3 a0_4 a0_5).bind fun t443 => (if t443 = true then ((impl_replyValid.f a0_6).bind fun t444 => (if t444 = true then ((impl_timeValid.f a0_8).bind fun t445 => (if t445 = true then (if a0_7 ≥ 0 then (some (decide (a0_7 ≤ a0_8))) else (some false)) else (some false))) else (some false))) else (some false))) else (some false))) else (some false)) = some r := H
  have A2 := Aside0.mk A20
  clear A20
  by_cases c3 : t441 = true
  · subst c3
    have H1 : ((impl_seqValid.f a0_1).bind fun t442 => (if t442 = true then ((impl_wishValid.f k a0_2 a0_3 a0_4 a0_5).bind fun t443 => (if t443 = true then ((impl_replyValid.f a0_6).bind fun t444 => (if t444 = true then ((impl_timeValid.f a0_8).bind fun t445 => (if t445 = true then (if a0_7 ≥ 0 then (some (decide (a0_7 ≤ a0_8))) else (some false)) else (some false))) else (some false))) else (some false))) else (some false))) = some r := by rw [if_pos rfl] at H; exact H
    clear H
    have H := H1
    clear H1
    replace H := Option.bind_eq_some_iff.mp H
    obtain ⟨t442, A40, H⟩ := H
    replace H : (if t442 = true then ((impl_wishValid.f k a0_2 a0_3 a0_4 a0_5).bind fun t443 => (if t443 = true then ((impl_replyValid.f a0_6).bind fun t444 => (if t444 = true then ((impl_timeValid.f a0_8).bind fun t445 => (if t445 = true then (if a0_7 ≥ 0 then (some (decide (a0_7 ≤ a0_8))) else (some false)) else (some false))) else (some false))) else (some false))) else (some false)) = some r := H
    have A4 := Aside0.mk A40
    clear A40
    by_cases c5 : t442 = true
    · subst c5
      have H1 : ((impl_wishValid.f k a0_2 a0_3 a0_4 a0_5).bind fun t443 => (if t443 = true then ((impl_replyValid.f a0_6).bind fun t444 => (if t444 = true then ((impl_timeValid.f a0_8).bind fun t445 => (if t445 = true then (if a0_7 ≥ 0 then (some (decide (a0_7 ≤ a0_8))) else (some false)) else (some false))) else (some false))) else (some false))) = some r := by rw [if_pos rfl] at H; exact H
      clear H
      have H := H1
      clear H1
      replace H := Option.bind_eq_some_iff.mp H
      obtain ⟨t443, A60, H⟩ := H
      replace H : (if t443 = true then ((impl_replyValid.f a0_6).bind fun t444 => (if t444 = true then ((impl_timeValid.f a0_8).bind fun t445 => (if t445 = true then (if a0_7 ≥ 0 then (some (decide (a0_7 ≤ a0_8))) else (some false)) else (some false))) else (some false))) else (some false)) = some r := H
      have A6 := Aside0.mk A60
      clear A60
      by_cases c7 : t443 = true
      · subst c7
        have H1 : ((impl_replyValid.f a0_6).bind fun t444 => (if t444 = true then ((impl_timeValid.f a0_8).bind fun t445 => (if t445 = true then (if a0_7 ≥ 0 then (some (decide (a0_7 ≤ a0_8))) else (some false)) else (some false))) else (some false))) = some r := by rw [if_pos rfl] at H; exact H
        clear H
        have H := H1
        clear H1
        replace H := Option.bind_eq_some_iff.mp H
        obtain ⟨t444, A80, H⟩ := H
        replace H : (if t444 = true then ((impl_timeValid.f a0_8).bind fun t445 => (if t445 = true then (if a0_7 ≥ 0 then (some (decide (a0_7 ≤ a0_8))) else (some false)) else (some false))) else (some false)) = some r := H
        have A8 := Aside0.mk A80
        clear A80
        by_cases c9 : t444 = true
        · subst c9
          have H1 : ((impl_timeValid.f a0_8).bind fun t445 => (if t445 = true then (if a0_7 ≥ 0 then (some (decide (a0_7 ≤ a0_8))) else (some false)) else (some false))) = some r := by rw [if_pos rfl] at H; exact H
          clear H
          have H := H1
          clear H1
          replace H := Option.bind_eq_some_iff.mp H
          obtain ⟨t445, A100, H⟩ := H
          replace H : (if t445 = true then (if a0_7 ≥ 0 then (some (decide (a0_7 ≤ a0_8))) else (some false)) else (some false)) = some r := H
          have A10 := Aside0.mk A100
          clear A100
          by_cases c11 : t445 = true
          · subst c11
            have H1 : (if a0_7 ≥ 0 then (some (decide (a0_7 ≤ a0_8))) else (some false)) = some r := by rw [if_pos rfl] at H; exact H
            clear H
            have H := H1
            clear H1
            by_cases c12 : a0_7 ≥ 0
            · rw [if_pos c12] at H
              have c12b0 : decide (0 ≤ a0_7) = true := decide_eq_true c12
              clear c12
              obtain rfl := Option.some.inj H
              go_enter Try.func24, Try.ntmps24
              go_wp2_with (first | ((with_reducible refine gate_dst (N := 1) rfl ?_); refine bxe (N := 1) (cs := #[.int .i64 a0_0, .int .i64 a0_1, .int .i64 a0_2, .string a0_3, .int .i64 a0_4, .int .i64 a0_5, .int .i64 a0_6, .int .i64 a0_7, .int .i64 a0_8]) (t := 42) ?_; intro gb440 hg w13 hbox hb; have BK440 := Aside0.mk (hbox); have GW440 := an2 HB hg; have GE440 := an2 HB hg; replace HB := an0 HB hb; clear hb hbox hg; obtain ⟨hcz14_0, hcz14_1, hcz14_2, hcz14_3, hcz14_4, hcz14_5, hcz14_6, hcz14_7, hcz14_8, hfz14_0, hfz14_1, hfz14_2, hfz14_3, hfz14_4, hfz14_5, hfz14_6, hfz14_7, hfz14_8⟩ := cl9 BK440) | ((with_reducible refine gate_callee (f := 84) rfl ?_); refine gsl (some 5) rfl Try.func84 #[.int .i64 a0_0] rfl ?_; (with_reducible refine (impl_clientNumber.calls a0_0 true _ A2.out).mono ?_); rintro e w' ⟨rfl, ⟨nd, rfl⟩⟩; refine ⟨_, rfl, ?_⟩) | (go_at_call 85; (with_reducible refine (impl_seqValid.calls a0_1 true _ A4.out).mono ?_); rintro e w' ⟨rfl, ⟨nd, rfl⟩⟩) | (go_at_call 86; (with_reducible refine (impl_wishValid.calls k a0_2 a0_3 a0_4 a0_5 true _ A6.out).mono ?_); rintro e w15 ⟨rfl, hb⟩; replace BK440 := an1 BK440 hb; replace HB := an0 HB hb; (try clear hb); (try clear hb2); (try clear hk); (try clear hi); obtain ⟨hcz16_0, hcz16_1, hcz16_2, hcz16_3, hcz16_4, hcz16_5, hcz16_6, hcz16_7, hcz16_8, hfz16_0, hfz16_1, hfz16_2, hfz16_3, hfz16_4, hfz16_5, hfz16_6, hfz16_7, hfz16_8⟩ := cl9 BK440) | (go_at_call 87; (with_reducible refine (impl_replyValid.calls a0_6 true _ A8.out).mono ?_); rintro e w' ⟨rfl, ⟨nd, rfl⟩⟩) | (go_at_call 88; (with_reducible refine (impl_timeValid.calls a0_8 true _ A10.out).mono ?_); rintro e w' ⟨rfl, ⟨nd, rfl⟩⟩))
              go_ret
              exact ⟨fe, bp HB.out⟩
            · rw [if_neg c12] at H
              have c12b0 : decide (0 ≤ a0_7) = false := decide_eq_false c12
              clear c12
              obtain rfl := Option.some.inj H
              go_enter Try.func24, Try.ntmps24
              go_wp2_with (first | ((with_reducible refine gate_dst (N := 1) rfl ?_); refine bxe (N := 1) (cs := #[.int .i64 a0_0, .int .i64 a0_1, .int .i64 a0_2, .string a0_3, .int .i64 a0_4, .int .i64 a0_5, .int .i64 a0_6, .int .i64 a0_7, .int .i64 a0_8]) (t := 42) ?_; intro gb440 hg w17 hbox hb; have BK440 := Aside0.mk (hbox); have GW440 := an2 HB hg; have GE440 := an2 HB hg; replace HB := an0 HB hb; clear hb hbox hg; obtain ⟨hcz18_0, hcz18_1, hcz18_2, hcz18_3, hcz18_4, hcz18_5, hcz18_6, hcz18_7, hcz18_8, hfz18_0, hfz18_1, hfz18_2, hfz18_3, hfz18_4, hfz18_5, hfz18_6, hfz18_7, hfz18_8⟩ := cl9 BK440) | ((with_reducible refine gate_callee (f := 84) rfl ?_); refine gsl (some 5) rfl Try.func84 #[.int .i64 a0_0] rfl ?_; (with_reducible refine (impl_clientNumber.calls a0_0 true _ A2.out).mono ?_); rintro e w' ⟨rfl, ⟨nd, rfl⟩⟩; refine ⟨_, rfl, ?_⟩) | (go_at_call 85; (with_reducible refine (impl_seqValid.calls a0_1 true _ A4.out).mono ?_); rintro e w' ⟨rfl, ⟨nd, rfl⟩⟩) | (go_at_call 86; (with_reducible refine (impl_wishValid.calls k a0_2 a0_3 a0_4 a0_5 true _ A6.out).mono ?_); rintro e w19 ⟨rfl, hb⟩; replace BK440 := an1 BK440 hb; replace HB := an0 HB hb; (try clear hb); (try clear hb2); (try clear hk); (try clear hi); obtain ⟨hcz20_0, hcz20_1, hcz20_2, hcz20_3, hcz20_4, hcz20_5, hcz20_6, hcz20_7, hcz20_8, hfz20_0, hfz20_1, hfz20_2, hfz20_3, hfz20_4, hfz20_5, hfz20_6, hfz20_7, hfz20_8⟩ := cl9 BK440) | (go_at_call 87; (with_reducible refine (impl_replyValid.calls a0_6 true _ A8.out).mono ?_); rintro e w' ⟨rfl, ⟨nd, rfl⟩⟩) | (go_at_call 88; (with_reducible refine (impl_timeValid.calls a0_8 true _ A10.out).mono ?_); rintro e w' ⟨rfl, ⟨nd, rfl⟩⟩))
              go_ret
              exact ⟨fe, bp HB.out⟩
          · replace c11 := Bool.eq_false_iff.mpr c11
            subst c11
            have H1 : (some false) = some r := by rw [if_neg (show ¬ (false = true) by decide)] at H; exact H
            clear H
            have H := H1
            clear H1
            obtain rfl := Option.some.inj H
            go_enter Try.func24, Try.ntmps24
            go_wp2_with (first | ((with_reducible refine gate_dst (N := 1) rfl ?_); refine bxe (N := 1) (cs := #[.int .i64 a0_0, .int .i64 a0_1, .int .i64 a0_2, .string a0_3, .int .i64 a0_4, .int .i64 a0_5, .int .i64 a0_6, .int .i64 a0_7, .int .i64 a0_8]) (t := 42) ?_; intro gb440 hg w21 hbox hb; have BK440 := Aside0.mk (hbox); have GW440 := an2 HB hg; have GE440 := an2 HB hg; replace HB := an0 HB hb; clear hb hbox hg; obtain ⟨hcz22_0, hcz22_1, hcz22_2, hcz22_3, hcz22_4, hcz22_5, hcz22_6, hcz22_7, hcz22_8, hfz22_0, hfz22_1, hfz22_2, hfz22_3, hfz22_4, hfz22_5, hfz22_6, hfz22_7, hfz22_8⟩ := cl9 BK440) | ((with_reducible refine gate_callee (f := 84) rfl ?_); refine gsl (some 5) rfl Try.func84 #[.int .i64 a0_0] rfl ?_; (with_reducible refine (impl_clientNumber.calls a0_0 true _ A2.out).mono ?_); rintro e w' ⟨rfl, ⟨nd, rfl⟩⟩; refine ⟨_, rfl, ?_⟩) | (go_at_call 85; (with_reducible refine (impl_seqValid.calls a0_1 true _ A4.out).mono ?_); rintro e w' ⟨rfl, ⟨nd, rfl⟩⟩) | (go_at_call 86; (with_reducible refine (impl_wishValid.calls k a0_2 a0_3 a0_4 a0_5 true _ A6.out).mono ?_); rintro e w23 ⟨rfl, hb⟩; replace BK440 := an1 BK440 hb; replace HB := an0 HB hb; (try clear hb); (try clear hb2); (try clear hk); (try clear hi); obtain ⟨hcz24_0, hcz24_1, hcz24_2, hcz24_3, hcz24_4, hcz24_5, hcz24_6, hcz24_7, hcz24_8, hfz24_0, hfz24_1, hfz24_2, hfz24_3, hfz24_4, hfz24_5, hfz24_6, hfz24_7, hfz24_8⟩ := cl9 BK440) | (go_at_call 87; (with_reducible refine (impl_replyValid.calls a0_6 true _ A8.out).mono ?_); rintro e w' ⟨rfl, ⟨nd, rfl⟩⟩) | (go_at_call 88; (with_reducible refine (impl_timeValid.calls a0_8 false _ A10.out).mono ?_); rintro e w' ⟨rfl, ⟨nd, rfl⟩⟩))
            go_ret
            exact ⟨fe, bp HB.out⟩
        · replace c9 := Bool.eq_false_iff.mpr c9
          subst c9
          have H1 : (some false) = some r := by rw [if_neg (show ¬ (false = true) by decide)] at H; exact H
          clear H
          have H := H1
          clear H1
          obtain rfl := Option.some.inj H
          go_enter Try.func24, Try.ntmps24
          go_wp2_with (first | ((with_reducible refine gate_dst (N := 1) rfl ?_); refine bxe (N := 1) (cs := #[.int .i64 a0_0, .int .i64 a0_1, .int .i64 a0_2, .string a0_3, .int .i64 a0_4, .int .i64 a0_5, .int .i64 a0_6, .int .i64 a0_7, .int .i64 a0_8]) (t := 42) ?_; intro gb440 hg w25 hbox hb; have BK440 := Aside0.mk (hbox); have GW440 := an2 HB hg; have GE440 := an2 HB hg; replace HB := an0 HB hb; clear hb hbox hg; obtain ⟨hcz26_0, hcz26_1, hcz26_2, hcz26_3, hcz26_4, hcz26_5, hcz26_6, hcz26_7, hcz26_8, hfz26_0, hfz26_1, hfz26_2, hfz26_3, hfz26_4, hfz26_5, hfz26_6, hfz26_7, hfz26_8⟩ := cl9 BK440) | ((with_reducible refine gate_callee (f := 84) rfl ?_); refine gsl (some 5) rfl Try.func84 #[.int .i64 a0_0] rfl ?_; (with_reducible refine (impl_clientNumber.calls a0_0 true _ A2.out).mono ?_); rintro e w' ⟨rfl, ⟨nd, rfl⟩⟩; refine ⟨_, rfl, ?_⟩) | (go_at_call 85; (with_reducible refine (impl_seqValid.calls a0_1 true _ A4.out).mono ?_); rintro e w' ⟨rfl, ⟨nd, rfl⟩⟩) | (go_at_call 86; (with_reducible refine (impl_wishValid.calls k a0_2 a0_3 a0_4 a0_5 true _ A6.out).mono ?_); rintro e w27 ⟨rfl, hb⟩; replace BK440 := an1 BK440 hb; replace HB := an0 HB hb; (try clear hb); (try clear hb2); (try clear hk); (try clear hi); obtain ⟨hcz28_0, hcz28_1, hcz28_2, hcz28_3, hcz28_4, hcz28_5, hcz28_6, hcz28_7, hcz28_8, hfz28_0, hfz28_1, hfz28_2, hfz28_3, hfz28_4, hfz28_5, hfz28_6, hfz28_7, hfz28_8⟩ := cl9 BK440) | (go_at_call 87; (with_reducible refine (impl_replyValid.calls a0_6 false _ A8.out).mono ?_); rintro e w' ⟨rfl, ⟨nd, rfl⟩⟩))
          go_ret
          exact ⟨fe, bp HB.out⟩
      · replace c7 := Bool.eq_false_iff.mpr c7
        subst c7
        have H1 : (some false) = some r := by rw [if_neg (show ¬ (false = true) by decide)] at H; exact H
        clear H
        have H := H1
        clear H1
        obtain rfl := Option.some.inj H
        go_enter Try.func24, Try.ntmps24
        go_wp2_with (first | ((with_reducible refine gate_dst (N := 1) rfl ?_); refine bxe (N := 1) (cs := #[.int .i64 a0_0, .int .i64 a0_1, .int .i64 a0_2, .string a0_3, .int .i64 a0_4, .int .i64 a0_5, .int .i64 a0_6, .int .i64 a0_7, .int .i64 a0_8]) (t := 42) ?_; intro gb440 hg w29 hbox hb; have BK440 := Aside0.mk (hbox); have GW440 := an2 HB hg; have GE440 := an2 HB hg; replace HB := an0 HB hb; clear hb hbox hg; obtain ⟨hcz30_0, hcz30_1, hcz30_2, hcz30_3, hcz30_4, hcz30_5, hcz30_6, hcz30_7, hcz30_8, hfz30_0, hfz30_1, hfz30_2, hfz30_3, hfz30_4, hfz30_5, hfz30_6, hfz30_7, hfz30_8⟩ := cl9 BK440) | ((with_reducible refine gate_callee (f := 84) rfl ?_); refine gsl (some 5) rfl Try.func84 #[.int .i64 a0_0] rfl ?_; (with_reducible refine (impl_clientNumber.calls a0_0 true _ A2.out).mono ?_); rintro e w' ⟨rfl, ⟨nd, rfl⟩⟩; refine ⟨_, rfl, ?_⟩) | (go_at_call 85; (with_reducible refine (impl_seqValid.calls a0_1 true _ A4.out).mono ?_); rintro e w' ⟨rfl, ⟨nd, rfl⟩⟩) | (go_at_call 86; (with_reducible refine (impl_wishValid.calls k a0_2 a0_3 a0_4 a0_5 false _ A6.out).mono ?_); rintro e w31 ⟨rfl, hb⟩; replace BK440 := an1 BK440 hb; replace HB := an0 HB hb; (try clear hb); (try clear hb2); (try clear hk); (try clear hi)))
        go_ret
        exact ⟨fe, bp HB.out⟩
    · replace c5 := Bool.eq_false_iff.mpr c5
      subst c5
      have H1 : (some false) = some r := by rw [if_neg (show ¬ (false = true) by decide)] at H; exact H
      clear H
      have H := H1
      clear H1
      obtain rfl := Option.some.inj H
      go_enter Try.func24, Try.ntmps24
      go_wp2_with (first | ((with_reducible refine gate_dst (N := 1) rfl ?_); refine bxe (N := 1) (cs := #[.int .i64 a0_0, .int .i64 a0_1, .int .i64 a0_2, .string a0_3, .int .i64 a0_4, .int .i64 a0_5, .int .i64 a0_6, .int .i64 a0_7, .int .i64 a0_8]) (t := 42) ?_; intro gb440 hg w32 hbox hb; have BK440 := Aside0.mk (hbox); have GW440 := an2 HB hg; have GE440 := an2 HB hg; replace HB := an0 HB hb; clear hb hbox hg; obtain ⟨hcz33_0, hcz33_1, hcz33_2, hcz33_3, hcz33_4, hcz33_5, hcz33_6, hcz33_7, hcz33_8, hfz33_0, hfz33_1, hfz33_2, hfz33_3, hfz33_4, hfz33_5, hfz33_6, hfz33_7, hfz33_8⟩ := cl9 BK440) | ((with_reducible refine gate_callee (f := 84) rfl ?_); refine gsl (some 5) rfl Try.func84 #[.int .i64 a0_0] rfl ?_; (with_reducible refine (impl_clientNumber.calls a0_0 true _ A2.out).mono ?_); rintro e w' ⟨rfl, ⟨nd, rfl⟩⟩; refine ⟨_, rfl, ?_⟩) | (go_at_call 85; (with_reducible refine (impl_seqValid.calls a0_1 false _ A4.out).mono ?_); rintro e w' ⟨rfl, ⟨nd, rfl⟩⟩))
      go_ret
      exact ⟨fe, bp HB.out⟩
  · replace c3 := Bool.eq_false_iff.mpr c3
    subst c3
    have H1 : (some false) = some r := by rw [if_neg (show ¬ (false = true) by decide)] at H; exact H
    clear H
    have H := H1
    clear H1
    obtain rfl := Option.some.inj H
    go_enter Try.func24, Try.ntmps24
    go_wp2_with (first | ((with_reducible refine gate_dst (N := 1) rfl ?_); refine bxe (N := 1) (cs := #[.int .i64 a0_0, .int .i64 a0_1, .int .i64 a0_2, .string a0_3, .int .i64 a0_4, .int .i64 a0_5, .int .i64 a0_6, .int .i64 a0_7, .int .i64 a0_8]) (t := 42) ?_; intro gb440 hg w34 hbox hb; have BK440 := Aside0.mk (hbox); have GW440 := an2 HB hg; have GE440 := an2 HB hg; replace HB := an0 HB hb; clear hb hbox hg; obtain ⟨hcz35_0, hcz35_1, hcz35_2, hcz35_3, hcz35_4, hcz35_5, hcz35_6, hcz35_7, hcz35_8, hfz35_0, hfz35_1, hfz35_2, hfz35_3, hfz35_4, hfz35_5, hfz35_6, hfz35_7, hfz35_8⟩ := cl9 BK440) | ((with_reducible refine gate_callee (f := 84) rfl ?_); refine gsl (some 5) rfl Try.func84 #[.int .i64 a0_0] rfl ?_; (with_reducible refine (impl_clientNumber.calls a0_0 false _ A2.out).mono ?_); rintro e w' ⟨rfl, ⟨nd, rfl⟩⟩; refine ⟨_, rfl, ?_⟩))
    go_ret
    exact ⟨fe, bp HB.out⟩

/-! ### impl_resultsValid: function 80 -/
def impl_resultsValid.l0 : Nat → List (S42) → Int → Int → Option (Bool)
  | 0, _, _, _ => none
  | k + 1, x8, x9, x10 => if x10 < x9 then (if 0 ≤ x10 then (if x10 < (x8.length : Int) then ((impl_ResultValid.f k ((rd_T42 x8 x10).f0) ((rd_T42 x8 x10).f1) ((rd_T42 x8 x10).f2.f0) ((rd_T42 x8 x10).f2.f1) ((rd_T42 x8 x10).f2.f2) ((rd_T42 x8 x10).f2.f3) ((rd_T42 x8 x10).f3) ((rd_T42 x8 x10).f4) ((rd_T42 x8 x10).f5)).bind fun t448 => (if t448 = true then (impl_resultsValid.l0 k x8 x9 (wrap64 (x10 + 1))) else (some false))) else (none)) else (none)) else (some true)
def impl_resultsValid.f (k : Nat) (l0 : List (S42)) : Option (Bool) := if (l0.length : Int) > 5 then (some false) else (impl_resultsValid.l0 k l0 (l0.length : Int) 0)
theorem impl_resultsValid.mono_l : ∀ k, (∀ y0 y1 y2, LeO (impl_resultsValid.l0 k y0 y1 y2) (impl_resultsValid.l0 (k + 1) y0 y1 y2))
  | 0 => fun _ _ _ r h => by simp [impl_resultsValid.l0] at h
  | k + 1 => by
    have ih0 := impl_resultsValid.mono_l k
    · intro y0 y1 y2
      unfold impl_resultsValid.l0
      repeat' first
      | (with_reducible exact ih0 _ _ _)
      | (with_reducible exact impl_ResultValid.mono _ _ _ _ _ _ _ _ _ _)
      | (with_reducible exact LeO.refl _)
      | (with_reducible exact LeO.none _)
      | (with_reducible refine LeO.ite ?_ ?_)
      | (with_reducible refine LeO.bind ?_ (fun _ => ?_))
      | exact ih0 _ _ _
      | exact impl_ResultValid.mono _ _ _ _ _ _ _ _ _ _
      | exact LeO.none _
      | refine LeO.ite ?_ ?_
      | refine LeO.bind ?_ (fun _ => ?_)
theorem impl_resultsValid.mono : ∀ a0 k, LeO (impl_resultsValid.f k a0) (impl_resultsValid.f (k + 1) a0) := by
  intro a0 k
  have ih0 := impl_resultsValid.mono_l k
  unfold impl_resultsValid.f
  repeat' first
      | (with_reducible exact ih0 _ _ _)
      | (with_reducible exact impl_ResultValid.mono _ _ _ _ _ _ _ _ _ _)
      | (with_reducible exact LeO.refl _)
      | (with_reducible exact LeO.none _)
      | (with_reducible refine LeO.ite ?_ ?_)
      | (with_reducible refine LeO.bind ?_ (fun _ => ?_))
      | exact ih0 _ _ _
      | exact impl_ResultValid.mono _ _ _ _ _ _ _ _ _ _
      | exact LeO.none _
      | refine LeO.ite ?_ ?_
      | refine LeO.bind ?_ (fun _ => ?_)
set_option maxHeartbeats 8000000 in
set_option maxRecDepth 100000 in
theorem impl_resultsValid.calls (k : Nat) (A0 : Option Addr) (c0 : Nat) (l0 : List (S42)) (r : Bool) (w : World) (hr0 : Kd.C k42 w A0 l0.length l0) (hc0 : l0.length ≤ c0) (h : impl_resultsValid.f k l0 = some r) :
    Calls Try.prog 80 #[.slice A0 l0.length c0] w fun e w' => e = .returned (.bool r) ∧ Below w.heap.size w w' := by
  have hu42 := Try.underlying42
  have HR0 := Aside0.mk hr0
  have HC0 := Aside0.mk hc0
  clear hr0 hc0
  have HB := Aside0.mk (Below.refl w.heap.size w)
  have H : (if (l0.length : Int) > 5 then (some false) else (impl_resultsValid.l0 k l0 (l0.length : Int) 0)) = some r := h
  clear h
  by_cases c2 : (l0.length : Int) > 5
  · rw [if_pos c2] at H
    have c2b0 : decide (5 < (l0.length : Int)) = true := decide_eq_true c2
    have c2b1 : decide (5 < l0.length) = true := decide_eq_true (by omega)
    clear c2
    obtain rfl := Option.some.inj H
    go_enter Try.func80, Try.ntmps80
    go_wp2
    go_ret
    exact ⟨fe, bp HB.out⟩
  · rw [if_neg c2] at H
    have c2b0 : decide (5 < (l0.length : Int)) = false := decide_eq_false c2
    have c2b1 : decide (5 < l0.length) = false := decide_eq_false (by omega)
    clear c2
    have H' := Aside0.mk H
    clear H
    go_enter Try.func80, Try.ntmps80
    go_wp2
    go_loopg [10] k (fun kq v10 w' => ∃ (x10_1 : Int), v10 = .int .i64 x10_1 ∧ Aside0 (impl_resultsValid.l0 kq l0 (l0.length : Int) x10_1 = some r) ∧ Aside0 (kq ≤ k) ∧ Aside0 (Below w.heap.size w w'))
    case atStart => exact ⟨(0), (by first | rfl | (simp; done) | (simp [*]; done) | (simp [bne_nil_, beq_nil_]; done)), H', ⟨Nat.le_refl _⟩, ⟨bp HB.out⟩⟩
    case round =>
      clear H'
      try clear c2
      try clear c2b0
      try clear c2b1
      try clear p2
      obtain ⟨x10_1, rfl, HA, HK1, HB⟩ := hrel
      cases gk with
      | zero => exact absurd HA.out (by simp [impl_resultsValid.l0])
      | succ k1 =>
        have H := HA.out
        clear HA
        simp only [impl_resultsValid.l0] at H
        by_cases c3 : x10_1 < (l0.length : Int)
        · rw [if_pos c3] at H
          have c3b0 : decide (x10_1 < (l0.length : Int)) = true := decide_eq_true c3
          clear c3
          by_cases c4 : 0 ≤ x10_1
          · rw [if_pos c4] at H
            have c4b0 : decide (0 ≤ x10_1) = true := decide_eq_true c4
            clear c4
            by_cases c5 : x10_1 < (l0.length : Int)
            · rw [if_pos c5] at H
              have c5b0 : decide (x10_1 < (l0.length : Int)) = true := decide_eq_true c5
              clear c5
              replace H := Option.bind_eq_some_iff.mp H
              obtain ⟨t448, A60, H⟩ := H
              replace H : (if t448 = true then (impl_resultsValid.l0 k1 l0 (l0.length : Int) (wrap64 (x10_1 + 1))) else (some false)) = some r := H
              have A6 := Aside0.mk A60
              clear A60
              by_cases c7 : t448 = true
              · subst c7
                have H1 : (impl_resultsValid.l0 k1 l0 (l0.length : Int) (wrap64 (x10_1 + 1))) = some r := by rw [if_pos rfl] at H; exact H
                clear H
                have H := H1
                clear H1
                have H' := Aside0.mk H
                clear H
                have p446 : 0 ≤ (x10_1 : Int) := of_decide_eq_true (by first | (with_reducible assumption) | assumption)
                have q446 : x10_1 < (l0.length : Int) := of_decide_eq_true (by first | (with_reducible assumption) | assumption)
                obtain ⟨ad446, e446, hx446_0, hx446_1, hx446_2, hx446_3, hx446_4, hx446_5, hx446_6, hx446_7, hx446_8⟩ := at_T42 HR0.out x10_1 p446 q446
                cases e446
                replace hx446_0 := hcx HB hx446_0
                replace hx446_1 := hcx HB hx446_1
                replace hx446_2 := hcx HB hx446_2
                replace hx446_3 := hcx HB hx446_3
                replace hx446_4 := hcx HB hx446_4
                replace hx446_5 := hcx HB hx446_5
                replace hx446_6 := hcx HB hx446_6
                replace hx446_7 := hcx HB hx446_7
                replace hx446_8 := hcx HB hx446_8
                replace p446 := eq_true p446
                replace q446 := eq_true q446
                go_wp2_with (first | ((with_reducible refine gate_dst (N := 4) rfl ?_); refine bxe (N := 4) (cs := #[.int .i64 0, .int .i64 0, .int .i64 0, .string (⟨#[]⟩ : ByteArray), .int .i64 0, .int .i64 0, .int .i64 0, .int .i64 0, .int .i64 0]) (t := 42) ?_; intro gb447 hg w8 hbox hb; have BK447 := Aside0.mk (hbox); have GW447 := an2 HB hg; have GE447 := an2 HB hg; replace HB := an0 HB hb; clear hb hbox hg; obtain ⟨hcz9_0, hcz9_1, hcz9_2, hcz9_3, hcz9_4, hcz9_5, hcz9_6, hcz9_7, hcz9_8, hfz9_0, hfz9_1, hfz9_2, hfz9_3, hfz9_4, hfz9_5, hfz9_6, hfz9_7, hfz9_8⟩ := cl9 BK447) | ((with_reducible refine gate_callee (f := 24) rfl ?_); refine gsl (some 15) rfl Try.func24 #[.agg #[.int .i64 ((rd_T42 l0 x10_1).f0), .int .i64 ((rd_T42 l0 x10_1).f1), .int .i64 ((rd_T42 l0 x10_1).f2.f0), .string ((rd_T42 l0 x10_1).f2.f1), .int .i64 ((rd_T42 l0 x10_1).f2.f2), .int .i64 ((rd_T42 l0 x10_1).f2.f3), .int .i64 ((rd_T42 l0 x10_1).f3), .int .i64 ((rd_T42 l0 x10_1).f4), .int .i64 ((rd_T42 l0 x10_1).f5)]] rfl ?_; (with_reducible refine (impl_ResultValid.calls k1 ((rd_T42 l0 x10_1).f0) ((rd_T42 l0 x10_1).f1) ((rd_T42 l0 x10_1).f2.f0) ((rd_T42 l0 x10_1).f2.f1) ((rd_T42 l0 x10_1).f2.f2) ((rd_T42 l0 x10_1).f2.f3) ((rd_T42 l0 x10_1).f3) ((rd_T42 l0 x10_1).f4) ((rd_T42 l0 x10_1).f5) true _ A6.out).mono ?_); rintro e w10 ⟨rfl, hb⟩; refine ⟨_, rfl, ?_⟩; have n0_ := Aside0.mk (blk_below (g := gb447) (o := .cells #[.int .i64 ((rd_T42 l0 x10_1).f0), .int .i64 ((rd_T42 l0 x10_1).f1), .int .i64 ((rd_T42 l0 x10_1).f2.f0), .string ((rd_T42 l0 x10_1).f2.f1), .int .i64 ((rd_T42 l0 x10_1).f2.f2), .int .i64 ((rd_T42 l0 x10_1).f2.f3), .int .i64 ((rd_T42 l0 x10_1).f3), .int .i64 ((rd_T42 l0 x10_1).f4), .int .i64 ((rd_T42 l0 x10_1).f5)] 42 (0, 0)) (by (with_reducible repeat (first | refine blk_drewN ?_ _ | refine blk_drew ?_ | refine blk_alloc ?_ _)); refine blk_put (cs := #[.int .i64 ((rd_T42 l0 x10_1).f0), .int .i64 ((rd_T42 l0 x10_1).f1), .int .i64 ((rd_T42 l0 x10_1).f2.f0), .string ((rd_T42 l0 x10_1).f2.f1), .int .i64 ((rd_T42 l0 x10_1).f2.f2), .int .i64 ((rd_T42 l0 x10_1).f2.f3), .int .i64 ((rd_T42 l0 x10_1).f3), .int .i64 ((rd_T42 l0 x10_1).f4), .int .i64 0]) ?_ 8 _ rfl; (with_reducible repeat (first | refine blk_drewN ?_ _ | refine blk_drew ?_ | refine blk_alloc ?_ _)); refine blk_put (cs := #[.int .i64 ((rd_T42 l0 x10_1).f0), .int .i64 ((rd_T42 l0 x10_1).f1), .int .i64 ((rd_T42 l0 x10_1).f2.f0), .string ((rd_T42 l0 x10_1).f2.f1), .int .i64 ((rd_T42 l0 x10_1).f2.f2), .int .i64 ((rd_T42 l0 x10_1).f2.f3), .int .i64 ((rd_T42 l0 x10_1).f3), .int .i64 0, .int .i64 0]) ?_ 7 _ rfl; (with_reducible repeat (first | refine blk_drewN ?_ _ | refine blk_drew ?_ | refine blk_alloc ?_ _)); refine blk_put (cs := #[.int .i64 ((rd_T42 l0 x10_1).f0), .int .i64 ((rd_T42 l0 x10_1).f1), .int .i64 ((rd_T42 l0 x10_1).f2.f0), .string ((rd_T42 l0 x10_1).f2.f1), .int .i64 ((rd_T42 l0 x10_1).f2.f2), .int .i64 ((rd_T42 l0 x10_1).f2.f3), .int .i64 0, .int .i64 0, .int .i64 0]) ?_ 6 _ rfl; (with_reducible repeat (first | refine blk_drewN ?_ _ | refine blk_drew ?_ | refine blk_alloc ?_ _)); refine blk_put (cs := #[.int .i64 ((rd_T42 l0 x10_1).f0), .int .i64 ((rd_T42 l0 x10_1).f1), .int .i64 ((rd_T42 l0 x10_1).f2.f0), .string ((rd_T42 l0 x10_1).f2.f1), .int .i64 ((rd_T42 l0 x10_1).f2.f2), .int .i64 0, .int .i64 0, .int .i64 0, .int .i64 0]) ?_ 5 _ rfl; (with_reducible repeat (first | refine blk_drewN ?_ _ | refine blk_drew ?_ | refine blk_alloc ?_ _)); refine blk_put (cs := #[.int .i64 ((rd_T42 l0 x10_1).f0), .int .i64 ((rd_T42 l0 x10_1).f1), .int .i64 ((rd_T42 l0 x10_1).f2.f0), .string ((rd_T42 l0 x10_1).f2.f1), .int .i64 0, .int .i64 0, .int .i64 0, .int .i64 0, .int .i64 0]) ?_ 4 _ rfl; (with_reducible repeat (first | refine blk_drewN ?_ _ | refine blk_drew ?_ | refine blk_alloc ?_ _)); refine blk_put (cs := #[.int .i64 ((rd_T42 l0 x10_1).f0), .int .i64 ((rd_T42 l0 x10_1).f1), .int .i64 ((rd_T42 l0 x10_1).f2.f0), .string (⟨#[]⟩ : ByteArray), .int .i64 0, .int .i64 0, .int .i64 0, .int .i64 0, .int .i64 0]) ?_ 3 _ rfl; (with_reducible repeat (first | refine blk_drewN ?_ _ | refine blk_drew ?_ | refine blk_alloc ?_ _)); refine blk_put (cs := #[.int .i64 ((rd_T42 l0 x10_1).f0), .int .i64 ((rd_T42 l0 x10_1).f1), .int .i64 0, .string (⟨#[]⟩ : ByteArray), .int .i64 0, .int .i64 0, .int .i64 0, .int .i64 0, .int .i64 0]) ?_ 2 _ rfl; (with_reducible repeat (first | refine blk_drewN ?_ _ | refine blk_drew ?_ | refine blk_alloc ?_ _)); refine blk_put (cs := #[.int .i64 ((rd_T42 l0 x10_1).f0), .int .i64 0, .int .i64 0, .string (⟨#[]⟩ : ByteArray), .int .i64 0, .int .i64 0, .int .i64 0, .int .i64 0, .int .i64 0]) ?_ 1 _ rfl; (with_reducible repeat (first | refine blk_drewN ?_ _ | refine blk_drew ?_ | refine blk_alloc ?_ _)); refine blk_put (cs := #[.int .i64 0, .int .i64 0, .int .i64 0, .string (⟨#[]⟩ : ByteArray), .int .i64 0, .int .i64 0, .int .i64 0, .int .i64 0, .int .i64 0]) ?_ 0 _ rfl; (with_reducible repeat (first | refine blk_drewN ?_ _ | refine blk_drew ?_ | refine blk_alloc ?_ _)); exact BK447.out) hb); have n1_ := an0 HB hb; clear BK447; clear HB; have BK447 := n0_; have HB := n1_; clear n0_ n1_; (try clear hb); (try clear hb2); (try clear hk); (try clear hi)))
                go_roundg k1
                case measure => have := HK1.out; omega
                case rel => exact ⟨(wrap64 (x10_1 + 1)), (by first | rfl | (simp; done) | (simp [*]; done) | (simp [bne_nil_, beq_nil_]; done)), H', ⟨by have := HK1.out; omega⟩, ⟨bp HB.out⟩⟩
              · replace c7 := Bool.eq_false_iff.mpr c7
                subst c7
                have H1 : (some false) = some r := by rw [if_neg (show ¬ (false = true) by decide)] at H; exact H
                clear H
                have H := H1
                clear H1
                obtain rfl := Option.some.inj H
                have p446 : 0 ≤ (x10_1 : Int) := of_decide_eq_true (by first | (with_reducible assumption) | assumption)
                have q446 : x10_1 < (l0.length : Int) := of_decide_eq_true (by first | (with_reducible assumption) | assumption)
                obtain ⟨ad446, e446, hx446_0, hx446_1, hx446_2, hx446_3, hx446_4, hx446_5, hx446_6, hx446_7, hx446_8⟩ := at_T42 HR0.out x10_1 p446 q446
                cases e446
                replace hx446_0 := hcx HB hx446_0
                replace hx446_1 := hcx HB hx446_1
                replace hx446_2 := hcx HB hx446_2
                replace hx446_3 := hcx HB hx446_3
                replace hx446_4 := hcx HB hx446_4
                replace hx446_5 := hcx HB hx446_5
                replace hx446_6 := hcx HB hx446_6
                replace hx446_7 := hcx HB hx446_7
                replace hx446_8 := hcx HB hx446_8
                replace p446 := eq_true p446
                replace q446 := eq_true q446
                go_wp2_with (first | ((with_reducible refine gate_dst (N := 4) rfl ?_); refine bxe (N := 4) (cs := #[.int .i64 0, .int .i64 0, .int .i64 0, .string (⟨#[]⟩ : ByteArray), .int .i64 0, .int .i64 0, .int .i64 0, .int .i64 0, .int .i64 0]) (t := 42) ?_; intro gb447 hg w11 hbox hb; have BK447 := Aside0.mk (hbox); have GW447 := an2 HB hg; have GE447 := an2 HB hg; replace HB := an0 HB hb; clear hb hbox hg; obtain ⟨hcz12_0, hcz12_1, hcz12_2, hcz12_3, hcz12_4, hcz12_5, hcz12_6, hcz12_7, hcz12_8, hfz12_0, hfz12_1, hfz12_2, hfz12_3, hfz12_4, hfz12_5, hfz12_6, hfz12_7, hfz12_8⟩ := cl9 BK447) | ((with_reducible refine gate_callee (f := 24) rfl ?_); refine gsl (some 15) rfl Try.func24 #[.agg #[.int .i64 ((rd_T42 l0 x10_1).f0), .int .i64 ((rd_T42 l0 x10_1).f1), .int .i64 ((rd_T42 l0 x10_1).f2.f0), .string ((rd_T42 l0 x10_1).f2.f1), .int .i64 ((rd_T42 l0 x10_1).f2.f2), .int .i64 ((rd_T42 l0 x10_1).f2.f3), .int .i64 ((rd_T42 l0 x10_1).f3), .int .i64 ((rd_T42 l0 x10_1).f4), .int .i64 ((rd_T42 l0 x10_1).f5)]] rfl ?_; (with_reducible refine (impl_ResultValid.calls k1 ((rd_T42 l0 x10_1).f0) ((rd_T42 l0 x10_1).f1) ((rd_T42 l0 x10_1).f2.f0) ((rd_T42 l0 x10_1).f2.f1) ((rd_T42 l0 x10_1).f2.f2) ((rd_T42 l0 x10_1).f2.f3) ((rd_T42 l0 x10_1).f3) ((rd_T42 l0 x10_1).f4) ((rd_T42 l0 x10_1).f5) false _ A6.out).mono ?_); rintro e w13 ⟨rfl, hb⟩; refine ⟨_, rfl, ?_⟩; have n0_ := Aside0.mk (blk_below (g := gb447) (o := .cells #[.int .i64 ((rd_T42 l0 x10_1).f0), .int .i64 ((rd_T42 l0 x10_1).f1), .int .i64 ((rd_T42 l0 x10_1).f2.f0), .string ((rd_T42 l0 x10_1).f2.f1), .int .i64 ((rd_T42 l0 x10_1).f2.f2), .int .i64 ((rd_T42 l0 x10_1).f2.f3), .int .i64 ((rd_T42 l0 x10_1).f3), .int .i64 ((rd_T42 l0 x10_1).f4), .int .i64 ((rd_T42 l0 x10_1).f5)] 42 (0, 0)) (by (with_reducible repeat (first | refine blk_drewN ?_ _ | refine blk_drew ?_ | refine blk_alloc ?_ _)); refine blk_put (cs := #[.int .i64 ((rd_T42 l0 x10_1).f0), .int .i64 ((rd_T42 l0 x10_1).f1), .int .i64 ((rd_T42 l0 x10_1).f2.f0), .string ((rd_T42 l0 x10_1).f2.f1), .int .i64 ((rd_T42 l0 x10_1).f2.f2), .int .i64 ((rd_T42 l0 x10_1).f2.f3), .int .i64 ((rd_T42 l0 x10_1).f3), .int .i64 ((rd_T42 l0 x10_1).f4), .int .i64 0]) ?_ 8 _ rfl; (with_reducible repeat (first | refine blk_drewN ?_ _ | refine blk_drew ?_ | refine blk_alloc ?_ _)); refine blk_put (cs := #[.int .i64 ((rd_T42 l0 x10_1).f0), .int .i64 ((rd_T42 l0 x10_1).f1), .int .i64 ((rd_T42 l0 x10_1).f2.f0), .string ((rd_T42 l0 x10_1).f2.f1), .int .i64 ((rd_T42 l0 x10_1).f2.f2), .int .i64 ((rd_T42 l0 x10_1).f2.f3), .int .i64 ((rd_T42 l0 x10_1).f3), .int .i64 0, .int .i64 0]) ?_ 7 _ rfl; (with_reducible repeat (first | refine blk_drewN ?_ _ | refine blk_drew ?_ | refine blk_alloc ?_ _)); refine blk_put (cs := #[.int .i64 ((rd_T42 l0 x10_1).f0), .int .i64 ((rd_T42 l0 x10_1).f1), .int .i64 ((rd_T42 l0 x10_1).f2.f0), .string ((rd_T42 l0 x10_1).f2.f1), .int .i64 ((rd_T42 l0 x10_1).f2.f2), .int .i64 ((rd_T42 l0 x10_1).f2.f3), .int .i64 0, .int .i64 0, .int .i64 0]) ?_ 6 _ rfl; (with_reducible repeat (first | refine blk_drewN ?_ _ | refine blk_drew ?_ | refine blk_alloc ?_ _)); refine blk_put (cs := #[.int .i64 ((rd_T42 l0 x10_1).f0), .int .i64 ((rd_T42 l0 x10_1).f1), .int .i64 ((rd_T42 l0 x10_1).f2.f0), .string ((rd_T42 l0 x10_1).f2.f1), .int .i64 ((rd_T42 l0 x10_1).f2.f2), .int .i64 0, .int .i64 0, .int .i64 0, .int .i64 0]) ?_ 5 _ rfl; (with_reducible repeat (first | refine blk_drewN ?_ _ | refine blk_drew ?_ | refine blk_alloc ?_ _)); refine blk_put (cs := #[.int .i64 ((rd_T42 l0 x10_1).f0), .int .i64 ((rd_T42 l0 x10_1).f1), .int .i64 ((rd_T42 l0 x10_1).f2.f0), .string ((rd_T42 l0 x10_1).f2.f1), .int .i64 0, .int .i64 0, .int .i64 0, .int .i64 0, .int .i64 0]) ?_ 4 _ rfl; (with_reducible repeat (first | refine blk_drewN ?_ _ | refine blk_drew ?_ | refine blk_alloc ?_ _)); refine blk_put (cs := #[.int .i64 ((rd_T42 l0 x10_1).f0), .int .i64 ((rd_T42 l0 x10_1).f1), .int .i64 ((rd_T42 l0 x10_1).f2.f0), .string (⟨#[]⟩ : ByteArray), .int .i64 0, .int .i64 0, .int .i64 0, .int .i64 0, .int .i64 0]) ?_ 3 _ rfl; (with_reducible repeat (first | refine blk_drewN ?_ _ | refine blk_drew ?_ | refine blk_alloc ?_ _)); refine blk_put (cs := #[.int .i64 ((rd_T42 l0 x10_1).f0), .int .i64 ((rd_T42 l0 x10_1).f1), .int .i64 0, .string (⟨#[]⟩ : ByteArray), .int .i64 0, .int .i64 0, .int .i64 0, .int .i64 0, .int .i64 0]) ?_ 2 _ rfl; (with_reducible repeat (first | refine blk_drewN ?_ _ | refine blk_drew ?_ | refine blk_alloc ?_ _)); refine blk_put (cs := #[.int .i64 ((rd_T42 l0 x10_1).f0), .int .i64 0, .int .i64 0, .string (⟨#[]⟩ : ByteArray), .int .i64 0, .int .i64 0, .int .i64 0, .int .i64 0, .int .i64 0]) ?_ 1 _ rfl; (with_reducible repeat (first | refine blk_drewN ?_ _ | refine blk_drew ?_ | refine blk_alloc ?_ _)); refine blk_put (cs := #[.int .i64 0, .int .i64 0, .int .i64 0, .string (⟨#[]⟩ : ByteArray), .int .i64 0, .int .i64 0, .int .i64 0, .int .i64 0, .int .i64 0]) ?_ 0 _ rfl; (with_reducible repeat (first | refine blk_drewN ?_ _ | refine blk_drew ?_ | refine blk_alloc ?_ _)); exact BK447.out) hb); have n1_ := an0 HB hb; clear BK447; clear HB; have BK447 := n0_; have HB := n1_; clear n0_ n1_; (try clear hb); (try clear hb2); (try clear hk); (try clear hi)))
                go_ret
                exact ⟨fe, bp HB.out⟩
            · rw [if_neg c5] at H
              exact absurd H (by simp)
          · rw [if_neg c4] at H
            exact absurd H (by simp)
        · rw [if_neg c3] at H
          have c3b0 : decide (x10_1 < (l0.length : Int)) = false := decide_eq_false c3
          clear c3
          obtain rfl := Option.some.inj H
          go_wp2
          go_ret
          exact ⟨fe, bp HB.out⟩

end Go.Proofs.Ytfeeifefmenlmaa.PFnRealTime
