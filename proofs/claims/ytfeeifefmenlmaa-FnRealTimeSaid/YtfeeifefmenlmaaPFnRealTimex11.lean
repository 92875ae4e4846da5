-- Written by a program of this session, in the manner of the kit's print (wip/pp.py): functions and their contracts.
import Derived.Test.YtfeeifefmenlmaaPFnRealTimex0
import Derived.Test.YtfeeifefmenlmaaPFnRealTimex2
import Derived.Test.YtfeeifefmenlmaaPFnRealTimex10
namespace Go.Proofs.Ytfeeifefmenlmaa.PFnRealTime
open Go.RowKit Go.Proofs.YtfeeifefmenlmaaW.PrintWords Go.Proofs.YtfeeifefmenlmaaW.PrintLast Go.Proofs.YtfeeifefmenlmaaW.PrintMore
attribute [local go_sem] binOp_leq_str binOp_gtr_str binOp_geq_str max2_int min2_int max_two min_two max_three min_three max_four min_four   -- for this text's walks alone
set_option linter.unusedVariables false
set_option linter.unusedSimpArgs false

/-! ### spec_ResultValid: function 82 -/
def spec_ResultValid.f (k : Nat) (a0_0 : Int) (a0_1 : Int) (a0_2 : Int) (a0_3 : ByteArray) (a0_4 : Int) (a0_5 : Int) (a0_6 : Int) (a0_7 : Int) (a0_8 : Int) : Option (Bool) := (spec_l1In.f a0_0 1 3).bind fun t466 => (if t466 = true then ((spec_l1In.f a0_1 1 999).bind fun t467 => (if t467 = true then ((spec_l25Wish.f k a0_2 a0_3 a0_4 a0_5).bind fun t468 => (if t468 = true then ((spec_l1In.f a0_6 (-4) 999).bind fun t469 => (if t469 = true then ((spec_l1In.f a0_8 0 200).bind fun t470 => (if t470 = true then ((spec_l1In.f a0_7 0 a0_8).bind fun t471 => (some t471)) else (some false))) else (some false))) else (some false))) else (some false))) else (some false))
theorem spec_ResultValid.mono : ∀ a0 a1 a2 a3 a4 a5 a6 a7 a8 k, LeO (spec_ResultValid.f k a0 a1 a2 a3 a4 a5 a6 a7 a8) (spec_ResultValid.f (k + 1) a0 a1 a2 a3 a4 a5 a6 a7 a8) := by
  intro a0 a1 a2 a3 a4 a5 a6 a7 a8 k
  unfold spec_ResultValid.f
  repeat' first
      | (with_reducible exact spec_l25Wish.mono _ _ _ _ _)
      | (with_reducible exact LeO.refl _)
      | (with_reducible exact LeO.none _)
      | (with_reducible refine LeO.ite ?_ ?_)
      | (with_reducible refine LeO.bind ?_ (fun _ => ?_))
      | exact spec_l25Wish.mono _ _ _ _ _
      | exact LeO.none _
      | refine LeO.ite ?_ ?_
      | refine LeO.bind ?_ (fun _ => ?_)
set_option maxHeartbeats 8000000 in
set_option maxRecDepth 100000 in
theorem spec_ResultValid.calls (k : Nat) (a0_0 : Int) (a0_1 : Int) (a0_2 : Int) (a0_3 : ByteArray) (a0_4 : Int) (a0_5 : Int) (a0_6 : Int) (a0_7 : Int) (a0_8 : Int) (r : Bool) (w : World) (h : spec_ResultValid.f k a0_0 a0_1 a0_2 a0_3 a0_4 a0_5 a0_6 a0_7 a0_8 = some r) :
    Calls Try.prog 82 #[.agg #[.int .i64 a0_0, .int .i64 a0_1, .int .i64 a0_2, .string a0_3, .int .i64 a0_4, .int .i64 a0_5, .int .i64 a0_6, .int .i64 a0_7, .int .i64 a0_8]] w fun e w' => e = .returned (.bool r) ∧ Below w.heap.size w w' := by
  have hu42 := Try.underlying42
  have hu40 := Try.underlying40
  have HB := Aside0.mk (Below.refl w.heap.size w)
  have H : ((spec_l1In.f a0_0 1 3).bind fun t466 => (if t466 = true then ((spec_l1In.f a0_1 1 999).bind fun t467 => (if t467 = true then ((spec_l25Wish.f k a0_2 a0_3 a0_4 a0_5).bind fun t468 => (if t468 = true then ((spec_l1In.f a0_6 (-4) 999).bind fun t469 => (if t469 = true then ((spec_l1In.f a0_8 0 200).bind fun t470 => (if t470 = true then ((spec_l1In.f a0_7 0 a0_8).bind fun t471 => (some t471)) else (some false))) else (some false))) else (some false))) else (some false))) else (some false))) = some r := h
  clear h
  replace H := Option.bind_eq_some_iff.mp H
  obtain ⟨t466, A20, H⟩ := H
  replace H : (if t466 = true then ((spec_l1In.f a0_1 1 999).bind fun t467 => (if t467 = true then ((spec_l25Wish.f k a0_2 a0_3 a0_4 a0_5).bind fun t468 => (if t468 = true then ((spec_l1In.f a0_6 (-4) 999).bind fun t469 => (if t469 = true then ((spec_l1In.f a0_8 0 200).bind fun t470 => (if t470 = true then ((spec_l1In.f a0_7 0 a0_8).bind fun t471 => (some t471)) else (some false))) else (some false))) else (some false))) else (some false))) else (some false)) = some r := H
  have A2 := Aside0.mk A20
  clear A20
  by_cases c3 : t466 = true
  · subst c3
    have H1 : ((spec_l1In.f a0_1 1 999).bind fun t467 => (if t467 = true then ((spec_l25Wish.f k a0_2 a0_3 a0_4 a0_5).bind fun t468 => (if t468 = true then ((spec_l1In.f a0_6 (-4) 999).bind fun t469 => (if t469 = true then ((spec_l1In.f a0_8 0 200).bind fun t470 => (if t470 = true then ((spec_l1In.f a0_7 0 a0_8).bind fun t471 => (some t471)) else (some false))) else (some false))) else (some false))) else (some false))) = some r := by rw [if_pos rfl] at H; exact H
    clear H
    have H := H1
    clear H1
    replace H := Option.bind_eq_some_iff.mp H
    obtain ⟨t467, A40, H⟩ := H
    replace H : (if t467 = true then ((spec_l25Wish.f k a0_2 a0_3 a0_4 a0_5).bind fun t468 => (if t468 = true then ((spec_l1In.f a0_6 (-4) 999).bind fun t469 => (if t469 = true then ((spec_l1In.f a0_8 0 200).bind fun t470 => (if t470 = true then ((spec_l1In.f a0_7 0 a0_8).bind fun t471 => (some t471)) else (some false))) else (some false))) else (some false))) else (some false)) = some r := H
    have A4 := Aside0.mk A40
    clear A40
    by_cases c5 : t467 = true
    · subst c5
      have H1 : ((spec_l25Wish.f k a0_2 a0_3 a0_4 a0_5).bind fun t468 => (if t468 = true then ((spec_l1In.f a0_6 (-4) 999).bind fun t469 => (if t469 = true then ((spec_l1In.f a0_8 0 200).bind fun t470 => (if t470 = true then ((spec_l1In.f a0_7 0 a0_8).bind fun t471 => (some t471)) else (some false))) else (some false))) else (some false))) = some r := by rw [if_pos rfl] at H; exact H
      clear H
      have H := H1
      clear H1
      replace H := Option.bind_eq_some_iff.mp H
      obtain ⟨t468, A60, H⟩ := H
      replace H : (if t468 = true then ((spec_l1In.f a0_6 (-4) 999).bind fun t469 => (if t469 = true then ((spec_l1In.f a0_8 0 200).bind fun t470 => (if t470 = true then ((spec_l1In.f a0_7 0 a0_8).bind fun t471 => (some t471)) else (some false))) else (some false))) else (some false)) = some r := H
      have A6 := Aside0.mk A60
      clear A60
      by_cases c7 : t468 = true
      · subst c7
        have H1 : ((spec_l1In.f a0_6 (-4) 999).bind fun t469 => (if t469 = true then ((spec_l1In.f a0_8 0 200).bind fun t470 => (if t470 = true then ((spec_l1In.f a0_7 0 a0_8).bind fun t471 => (some t471)) else (some false))) else (some false))) = some r := by rw [if_pos rfl] at H; exact H
        clear H
        have H := H1
        clear H1
        replace H := Option.bind_eq_some_iff.mp H
        obtain ⟨t469, A80, H⟩ := H
        replace H : (if t469 = true then ((spec_l1In.f a0_8 0 200).bind fun t470 => (if t470 = true then ((spec_l1In.f a0_7 0 a0_8).bind fun t471 => (some t471)) else (some false))) else (some false)) = some r := H
        have A8 := Aside0.mk A80
        clear A80
        by_cases c9 : t469 = true
        · subst c9
          have H1 : ((spec_l1In.f a0_8 0 200).bind fun t470 => (if t470 = true then ((spec_l1In.f a0_7 0 a0_8).bind fun t471 => (some t471)) else (some false))) = some r := by rw [if_pos rfl] at H; exact H
          clear H
          have H := H1
          clear H1
          replace H := Option.bind_eq_some_iff.mp H
          obtain ⟨t470, A100, H⟩ := H
          replace H : (if t470 = true then ((spec_l1In.f a0_7 0 a0_8).bind fun t471 => (some t471)) else (some false)) = some r := H
          have A10 := Aside0.mk A100
          clear A100
          by_cases c11 : t470 = true
          · subst c11
            have H1 : ((spec_l1In.f a0_7 0 a0_8).bind fun t471 => (some t471)) = some r := by rw [if_pos rfl] at H; exact H
            clear H
            have H := H1
            clear H1
            replace H := Option.bind_eq_some_iff.mp H
            obtain ⟨t471, A120, H⟩ := H
            replace H : (some t471) = some r := H
            have A12 := Aside0.mk A120
            clear A120
            obtain rfl := Option.some.inj H
            go_enter Try.func82, Try.ntmps82
            go_wp2_with (first | ((with_reducible refine gate_dst (N := 1) rfl ?_); refine bxe (N := 1) (cs := #[.int .i64 a0_0, .int .i64 a0_1, .int .i64 a0_2, .string a0_3, .int .i64 a0_4, .int .i64 a0_5, .int .i64 a0_6, .int .i64 a0_7, .int .i64 a0_8]) (t := 42) ?_; intro gb465 hg w13 hbox hb; have BK465 := Aside0.mk (hbox); have GW465 := an2 HB hg; have GE465 := an2 HB hg; replace HB := an0 HB hb; clear hb hbox hg; obtain ⟨hcz14_0, hcz14_1, hcz14_2, hcz14_3, hcz14_4, hcz14_5, hcz14_6, hcz14_7, hcz14_8, hfz14_0, hfz14_1, hfz14_2, hfz14_3, hfz14_4, hfz14_5, hfz14_6, hfz14_7, hfz14_8⟩ := cl9 BK465) | ((with_reducible refine gate_callee (f := 112) rfl ?_); refine gsl (some 5) rfl Try.func112 #[.int .i64 a0_0, .int .i64 1, .int .i64 3] rfl ?_; (with_reducible refine (spec_l1In.calls a0_0 1 3 true _ A2.out).mono ?_); rintro e w' ⟨rfl, ⟨nd, rfl⟩⟩; refine ⟨_, rfl, ?_⟩) | (go_at_call 112; (with_reducible refine (spec_l1In.calls a0_1 1 999 true _ A4.out).mono ?_); rintro e w' ⟨rfl, ⟨nd, rfl⟩⟩) | (go_at_call 133; (with_reducible refine (spec_l25Wish.calls k a0_2 a0_3 a0_4 a0_5 true _ A6.out).mono ?_); rintro e w15 ⟨rfl, hb⟩; replace BK465 := an1 BK465 hb; replace HB := an0 HB hb; (try clear hb); (try clear hb2); (try clear hk); (try clear hi); obtain ⟨hcz16_0, hcz16_1, hcz16_2, hcz16_3, hcz16_4, hcz16_5, hcz16_6, hcz16_7, hcz16_8, hfz16_0, hfz16_1, hfz16_2, hfz16_3, hfz16_4, hfz16_5, hfz16_6, hfz16_7, hfz16_8⟩ := cl9 BK465) | (go_at_call 112; (with_reducible refine (spec_l1In.calls a0_6 (-4) 999 true _ A8.out).mono ?_); rintro e w' ⟨rfl, ⟨nd, rfl⟩⟩) | (go_at_call 112; (with_reducible refine (spec_l1In.calls a0_8 0 200 true _ A10.out).mono ?_); rintro e w' ⟨rfl, ⟨nd, rfl⟩⟩) | (go_at_call 112; (with_reducible refine (spec_l1In.calls a0_7 0 a0_8 t471 _ A12.out).mono ?_); rintro e w' ⟨rfl, ⟨nd, rfl⟩⟩))
            go_ret
            exact ⟨fe, bp HB.out⟩
          · replace c11 := Bool.eq_false_iff.mpr c11
            subst c11
            have H1 : (some false) = some r := by rw [if_neg (show ¬ (false = true) by decide)] at H; exact H
            clear H
            have H := H1
            clear H1
            obtain rfl := Option.some.inj H
            go_enter Try.func82, Try.ntmps82
            go_wp2_with (first | ((with_reducible refine gate_dst (N := 1) rfl ?_); refine bxe (N := 1) (cs := #[.int .i64 a0_0, .int .i64 a0_1, .int .i64 a0_2, .string a0_3, .int .i64 a0_4, .int .i64 a0_5, .int .i64 a0_6, .int .i64 a0_7, .int .i64 a0_8]) (t := 42) ?_; intro gb465 hg w17 hbox hb; have BK465 := Aside0.mk (hbox); have GW465 := an2 HB hg; have GE465 := an2 HB hg; replace HB := an0 HB hb; clear hb hbox hg; obtain ⟨hcz18_0, hcz18_1, hcz18_2, hcz18_3, hcz18_4, hcz18_5, hcz18_6, hcz18_7, hcz18_8, hfz18_0, hfz18_1, hfz18_2, hfz18_3, hfz18_4, hfz18_5, hfz18_6, hfz18_7, hfz18_8⟩ := cl9 BK465) | ((with_reducible refine gate_callee (f := 112) rfl ?_); refine gsl (some 5) rfl Try.func112 #[.int .i64 a0_0, .int .i64 1, .int .i64 3] rfl ?_; (with_reducible refine (spec_l1In.calls a0_0 1 3 true _ A2.out).mono ?_); rintro e w' ⟨rfl, ⟨nd, rfl⟩⟩; refine ⟨_, rfl, ?_⟩) | (go_at_call 112; (with_reducible refine (spec_l1In.calls a0_1 1 999 true _ A4.out).mono ?_); rintro e w' ⟨rfl, ⟨nd, rfl⟩⟩) | (go_at_call 133; (with_reducible refine (spec_l25Wish.calls k a0_2 a0_3 a0_4 a0_5 true _ A6.out).mono ?_); rintro e w19 ⟨rfl, hb⟩; replace BK465 := an1 BK465 hb; replace HB := an0 HB hb; (try clear hb); (try clear hb2); (try clear hk); (try clear hi); obtain ⟨hcz20_0, hcz20_1, hcz20_2, hcz20_3, hcz20_4, hcz20_5, hcz20_6, hcz20_7, hcz20_8, hfz20_0, hfz20_1, hfz20_2, hfz20_3, hfz20_4, hfz20_5, hfz20_6, hfz20_7, hfz20_8⟩ := cl9 BK465) | (go_at_call 112; (with_reducible refine (spec_l1In.calls a0_6 (-4) 999 true _ A8.out).mono ?_); rintro e w' ⟨rfl, ⟨nd, rfl⟩⟩) | (go_at_call 112; (with_reducible refine (spec_l1In.calls a0_8 0 200 false _ A10.out).mono ?_); rintro e w' ⟨rfl, ⟨nd, rfl⟩⟩))
            go_ret
            exact ⟨fe, bp HB.out⟩
        · replace c9 := Bool.eq_false_iff.mpr c9
          subst c9
          have H1 : (some false) = some r := by rw [if_neg (show ¬ (false = true) by decide)] at H; exact H
          clear H
          have H := H1
          clear H1
          obtain rfl := Option.some.inj H
          go_enter Try.func82, Try.ntmps82
          go_wp2_with (first | ((with_reducible refine gate_dst (N := 1) rfl ?_); refine bxe (N := 1) (cs := #[.int .i64 a0_0, .int .i64 a0_1, .int .i64 a0_2, .string a0_3, .int .i64 a0_4, .int .i64 a0_5, .int .i64 a0_6, .int .i64 a0_7, .int .i64 a0_8]) (t := 42) ?_; intro gb465 hg w21 hbox hb; have BK465 := Aside0.mk (hbox); have GW465 := an2 HB hg; have GE465 := an2 HB hg; replace HB := an0 HB hb; clear hb hbox hg; obtain ⟨hcz22_0, hcz22_1, hcz22_2, hcz22_3, hcz22_4, hcz22_5, hcz22_6, hcz22_7, hcz22_8, hfz22_0, hfz22_1, hfz22_2, hfz22_3, hfz22_4, hfz22_5, hfz22_6, hfz22_7, hfz22_8⟩ := cl9 BK465) | ((with_reducible refine gate_callee (f := 112) rfl ?_); refine gsl (some 5) rfl Try.func112 #[.int .i64 a0_0, .int .i64 1, .int .i64 3] rfl ?_; (with_reducible refine (spec_l1In.calls a0_0 1 3 true _ A2.out).mono ?_); rintro e w' ⟨rfl, ⟨nd, rfl⟩⟩; refine ⟨_, rfl, ?_⟩) | (go_at_call 112; (with_reducible refine (spec_l1In.calls a0_1 1 999 true _ A4.out).mono ?_); rintro e w' ⟨rfl, ⟨nd, rfl⟩⟩) | (go_at_call 133; (with_reducible refine (spec_l25Wish.calls k a0_2 a0_3 a0_4 a0_5 true _ A6.out).mono ?_); rintro e w23 ⟨rfl, hb⟩; replace BK465 := an1 BK465 hb; replace HB := an0 HB hb; (try clear hb); (try clear hb2); (try clear hk); (try clear hi); obtain ⟨hcz24_0, hcz24_1, hcz24_2, hcz24_3, hcz24_4, hcz24_5, hcz24_6, hcz24_7, hcz24_8, hfz24_0, hfz24_1, hfz24_2, hfz24_3, hfz24_4, hfz24_5, hfz24_6, hfz24_7, hfz24_8⟩ := cl9 BK465) | (go_at_call 112; (with_reducible refine (spec_l1In.calls a0_6 (-4) 999 false _ A8.out).mono ?_); rintro e w' ⟨rfl, ⟨nd, rfl⟩⟩))
          go_ret
          exact ⟨fe, bp HB.out⟩
      · replace c7 := Bool.eq_false_iff.mpr c7
        subst c7
        have H1 : (some false) = some r := by rw [if_neg (show ¬ (false = true) by decide)] at H; exact H
        clear H
        have H := H1
        clear H1
        obtain rfl := Option.some.inj H
        go_enter Try.func82, Try.ntmps82
        go_wp2_with (first | ((with_reducible refine gate_dst (N := 1) rfl ?_); refine bxe (N := 1) (cs := #[.int .i64 a0_0, .int .i64 a0_1, .int .i64 a0_2, .string a0_3, .int .i64 a0_4, .int .i64 a0_5, .int .i64 a0_6, .int .i64 a0_7, .int .i64 a0_8]) (t := 42) ?_; intro gb465 hg w25 hbox hb; have BK465 := Aside0.mk (hbox); have GW465 := an2 HB hg; have GE465 := an2 HB hg; replace HB := an0 HB hb; clear hb hbox hg; obtain ⟨hcz26_0, hcz26_1, hcz26_2, hcz26_3, hcz26_4, hcz26_5, hcz26_6, hcz26_7, hcz26_8, hfz26_0, hfz26_1, hfz26_2, hfz26_3, hfz26_4, hfz26_5, hfz26_6, hfz26_7, hfz26_8⟩ := cl9 BK465) | ((with_reducible refine gate_callee (f := 112) rfl ?_); refine gsl (some 5) rfl Try.func112 #[.int .i64 a0_0, .int .i64 1, .int .i64 3] rfl ?_; (with_reducible refine (spec_l1In.calls a0_0 1 3 true _ A2.out).mono ?_); rintro e w' ⟨rfl, ⟨nd, rfl⟩⟩; refine ⟨_, rfl, ?_⟩) | (go_at_call 112; (with_reducible refine (spec_l1In.calls a0_1 1 999 true _ A4.out).mono ?_); rintro e w' ⟨rfl, ⟨nd, rfl⟩⟩) | (go_at_call 133; (with_reducible refine (spec_l25Wish.calls k a0_2 a0_3 a0_4 a0_5 false _ A6.out).mono ?_); rintro e w27 ⟨rfl, hb⟩; replace BK465 := an1 BK465 hb; replace HB := an0 HB hb; (try clear hb); (try clear hb2); (try clear hk); (try clear hi)))
        go_ret
        exact ⟨fe, bp HB.out⟩
    · replace c5 := Bool.eq_false_iff.mpr c5
      subst c5
      have H1 : (some false) = some r := by rw [if_neg (show ¬ (false = true) by decide)] at H; exact H
      clear H
      have H := H1
      clear H1
      obtain rfl := Option.some.inj H
      go_enter Try.func82, Try.ntmps82
      go_wp2_with (first | ((with_reducible refine gate_dst (N := 1) rfl ?_); refine bxe (N := 1) (cs := #[.int .i64 a0_0, .int .i64 a0_1, .int .i64 a0_2, .string a0_3, .int .i64 a0_4, .int .i64 a0_5, .int .i64 a0_6, .int .i64 a0_7, .int .i64 a0_8]) (t := 42) ?_; intro gb465 hg w28 hbox hb; have BK465 := Aside0.mk (hbox); have GW465 := an2 HB hg; have GE465 := an2 HB hg; replace HB := an0 HB hb; clear hb hbox hg; obtain ⟨hcz29_0, hcz29_1, hcz29_2, hcz29_3, hcz29_4, hcz29_5, hcz29_6, hcz29_7, hcz29_8, hfz29_0, hfz29_1, hfz29_2, hfz29_3, hfz29_4, hfz29_5, hfz29_6, hfz29_7, hfz29_8⟩ := cl9 BK465) | ((with_reducible refine gate_callee (f := 112) rfl ?_); refine gsl (some 5) rfl Try.func112 #[.int .i64 a0_0, .int .i64 1, .int .i64 3] rfl ?_; (with_reducible refine (spec_l1In.calls a0_0 1 3 true _ A2.out).mono ?_); rintro e w' ⟨rfl, ⟨nd, rfl⟩⟩; refine ⟨_, rfl, ?_⟩) | (go_at_call 112; (with_reducible refine (spec_l1In.calls a0_1 1 999 false _ A4.out).mono ?_); rintro e w' ⟨rfl, ⟨nd, rfl⟩⟩))
      go_ret
      exact ⟨fe, bp HB.out⟩
  · replace c3 := Bool.eq_false_iff.mpr c3
    subst c3
    have H1 : (some false) = some r := by rw [if_neg (show ¬ (false = true) by decide)] at H; exact H
    clear H
    have H := H1
    clear H1
    obtain rfl := Option.some.inj H
    go_enter Try.func82, Try.ntmps82
    go_wp2_with (first | ((with_reducible refine gate_dst (N := 1) rfl ?_); refine bxe (N := 1) (cs := #[.int .i64 a0_0, .int .i64 a0_1, .int .i64 a0_2, .string a0_3, .int .i64 a0_4, .int .i64 a0_5, .int .i64 a0_6, .int .i64 a0_7, .int .i64 a0_8]) (t := 42) ?_; intro gb465 hg w30 hbox hb; have BK465 := Aside0.mk (hbox); have GW465 := an2 HB hg; have GE465 := an2 HB hg; replace HB := an0 HB hb; clear hb hbox hg; obtain ⟨hcz31_0, hcz31_1, hcz31_2, hcz31_3, hcz31_4, hcz31_5, hcz31_6, hcz31_7, hcz31_8, hfz31_0, hfz31_1, hfz31_2, hfz31_3, hfz31_4, hfz31_5, hfz31_6, hfz31_7, hfz31_8⟩ := cl9 BK465) | ((with_reducible refine gate_callee (f := 112) rfl ?_); refine gsl (some 5) rfl Try.func112 #[.int .i64 a0_0, .int .i64 1, .int .i64 3] rfl ?_; (with_reducible refine (spec_l1In.calls a0_0 1 3 false _ A2.out).mono ?_); rintro e w' ⟨rfl, ⟨nd, rfl⟩⟩; refine ⟨_, rfl, ?_⟩))
    go_ret
    exact ⟨fe, bp HB.out⟩

/-! ### spec_RealTime: function 22 -/
mutual
def spec_RealTime.l0 : Nat → List (S42) → List Int → Int → Option (Bool)
  | 0, _, _, _ => none
  | k + 1, x0, x1, x5 => if x5 < (x1.length : Int) then (if 0 ≤ x5 then (if 0 ≤ (rd x1 x5) then (if (rd x1 x5) < (x0.length : Int) then ((spec_ResultValid.f k ((rd_T42 x0 (rd x1 x5)).f0) ((rd_T42 x0 (rd x1 x5)).f1) ((rd_T42 x0 (rd x1 x5)).f2.f0) ((rd_T42 x0 (rd x1 x5)).f2.f1) ((rd_T42 x0 (rd x1 x5)).f2.f2) ((rd_T42 x0 (rd x1 x5)).f2.f3) ((rd_T42 x0 (rd x1 x5)).f3) ((rd_T42 x0 (rd x1 x5)).f4) ((rd_T42 x0 (rd x1 x5)).f5)).bind fun t476 => (if t476 = true then (spec_RealTime.l1 k x0 x1 x5 (wrap64 (x5 + 1)) ((rd_T42 x0 (rd x1 x5)).f0) ((rd_T42 x0 (rd x1 x5)).f1) ((rd_T42 x0 (rd x1 x5)).f2.f0) ((rd_T42 x0 (rd x1 x5)).f2.f1) ((rd_T42 x0 (rd x1 x5)).f2.f2) ((rd_T42 x0 (rd x1 x5)).f2.f3) ((rd_T42 x0 (rd x1 x5)).f3) ((rd_T42 x0 (rd x1 x5)).f4) ((rd_T42 x0 (rd x1 x5)).f5)) else (some false))) else (none)) else (none)) else (none)) else (some true)
def spec_RealTime.l1 : Nat → List (S42) → List Int → Int → Int → Int → Int → Int → ByteArray → Int → Int → Int → Int → Int → Option (Bool)
  | 0, _, _, _, _, _, _, _, _, _, _, _, _, _ => none
  | k + 1, x0, x1, x5, x7, x476000, x476001, x476002, x476003, x476004, x476005, x476006, x476007, x476008 => if x7 < (x1.length : Int) then (if 0 ≤ x7 then (if 0 ≤ (rd x1 x7) then (if (rd x1 x7) < (x0.length : Int) then (if ((rd_T42 x0 (rd x1 x7)).f5) < x476007 then (some false) else (spec_RealTime.l1 k x0 x1 x5 (wrap64 (x7 + 1)) x476000 x476001 x476002 x476003 x476004 x476005 x476006 x476007 x476008)) else (none)) else (none)) else (none)) else (spec_RealTime.l0 k x0 x1 (wrap64 (x5 + 1)))
end
def spec_RealTime.f (k : Nat) (l0 : List (S42)) (l1 : List Int) : Option (Bool) := (spec_OrderValid.f k (l0.length : Int) l1).bind fun t472 => (if t472 = true then (spec_RealTime.l0 k l0 l1 0) else (some false))
theorem spec_RealTime.mono_l : ∀ k, (∀ y0 y1 y2, LeO (spec_RealTime.l0 k y0 y1 y2) (spec_RealTime.l0 (k + 1) y0 y1 y2)) ∧ (∀ y0 y1 y2 y3 y4 y5 y6 y7 y8 y9 y10 y11 y12, LeO (spec_RealTime.l1 k y0 y1 y2 y3 y4 y5 y6 y7 y8 y9 y10 y11 y12) (spec_RealTime.l1 (k + 1) y0 y1 y2 y3 y4 y5 y6 y7 y8 y9 y10 y11 y12))
  | 0 => ⟨fun _ _ _ r h => by simp [spec_RealTime.l0] at h, fun _ _ _ _ _ _ _ _ _ _ _ _ _ r h => by simp [spec_RealTime.l1] at h⟩
  | k + 1 => by
    obtain ⟨ih0, ih1⟩ := spec_RealTime.mono_l k
    refine ⟨?_, ?_⟩
    · intro y0 y1 y2
      unfold spec_RealTime.l0
      repeat' first
      | (with_reducible exact ih0 _ _ _)
      | (with_reducible exact ih1 _ _ _ _ _ _ _ _ _ _ _ _ _)
      | (with_reducible exact spec_OrderValid.mono _ _ _)
      | (with_reducible exact spec_ResultValid.mono _ _ _ _ _ _ _ _ _ _)
      | (with_reducible exact LeO.refl _)
      | (with_reducible exact LeO.none _)
      | (with_reducible refine LeO.ite ?_ ?_)
      | (with_reducible refine LeO.bind ?_ (fun _ => ?_))
      | exact ih0 _ _ _
      | exact ih1 _ _ _ _ _ _ _ _ _ _ _ _ _
      | exact spec_OrderValid.mono _ _ _
      | exact spec_ResultValid.mono _ _ _ _ _ _ _ _ _ _
      | exact LeO.none _
      | refine LeO.ite ?_ ?_
      | refine LeO.bind ?_ (fun _ => ?_)
    · intro y0 y1 y2 y3 y4 y5 y6 y7 y8 y9 y10 y11 y12
      unfold spec_RealTime.l1
      repeat' first
      | (with_reducible exact ih0 _ _ _)
      | (with_reducible exact ih1 _ _ _ _ _ _ _ _ _ _ _ _ _)
      | (with_reducible exact spec_OrderValid.mono _ _ _)
      | (with_reducible exact spec_ResultValid.mono _ _ _ _ _ _ _ _ _ _)
      | (with_reducible exact LeO.refl _)
      | (with_reducible exact LeO.none _)
      | (with_reducible refine LeO.ite ?_ ?_)
      | (with_reducible refine LeO.bind ?_ (fun _ => ?_))
      | exact ih0 _ _ _
      | exact ih1 _ _ _ _ _ _ _ _ _ _ _ _ _
      | exact spec_OrderValid.mono _ _ _
      | exact spec_ResultValid.mono _ _ _ _ _ _ _ _ _ _
      | exact LeO.none _
      | refine LeO.ite ?_ ?_
      | refine LeO.bind ?_ (fun _ => ?_)
theorem spec_RealTime.mono : ∀ a0 a1 k, LeO (spec_RealTime.f k a0 a1) (spec_RealTime.f (k + 1) a0 a1) := by
  intro a0 a1 k
  obtain ⟨ih0, ih1⟩ := spec_RealTime.mono_l k
  unfold spec_RealTime.f
  repeat' first
      | (with_reducible exact ih0 _ _ _)
      | (with_reducible exact ih1 _ _ _ _ _ _ _ _ _ _ _ _ _)
      | (with_reducible exact spec_OrderValid.mono _ _ _)
      | (with_reducible exact spec_ResultValid.mono _ _ _ _ _ _ _ _ _ _)
      | (with_reducible exact LeO.refl _)
      | (with_reducible exact LeO.none _)
      | (with_reducible refine LeO.ite ?_ ?_)
      | (with_reducible refine LeO.bind ?_ (fun _ => ?_))
      | exact ih0 _ _ _
      | exact ih1 _ _ _ _ _ _ _ _ _ _ _ _ _
      | exact spec_OrderValid.mono _ _ _
      | exact spec_ResultValid.mono _ _ _ _ _ _ _ _ _ _
      | exact LeO.none _
      | refine LeO.ite ?_ ?_
      | refine LeO.bind ?_ (fun _ => ?_)
set_option maxHeartbeats 8000000 in
set_option maxRecDepth 100000 in
theorem spec_RealTime.calls (k : Nat) (A0 : Option Addr) (c0 : Nat) (l0 : List (S42)) (A1 : Option Addr) (c1 : Nat) (l1 : List Int) (r : Bool) (w : World) (hr0 : Kd.C k42 w A0 l0.length l0) (hc0 : l0.length ≤ c0) (hr1 : Kd.C (Kd.int .i64) w A1 l1.length l1) (hc1 : l1.length ≤ c1) (h : spec_RealTime.f k l0 l1 = some r) :
    Calls Try.prog 22 #[.slice A0 l0.length c0, .slice A1 l1.length c1] w fun e w' => e = .returned (.bool r) ∧ Below w.heap.size w w' := by
  have hu42 := Try.underlying42
  have HR0 := Aside0.mk hr0
  have HC0 := Aside0.mk hc0
  clear hr0 hc0
  have HR1 := Aside0.mk hr1
  have HC1 := Aside0.mk hc1
  clear hr1 hc1
  have HB := Aside0.mk (Below.refl w.heap.size w)
  have H : ((spec_OrderValid.f k (l0.length : Int) l1).bind fun t472 => (if t472 = true then (spec_RealTime.l0 k l0 l1 0) else (some false))) = some r := h
  clear h
  replace H := Option.bind_eq_some_iff.mp H
  obtain ⟨t472, A30, H⟩ := H
  replace H : (if t472 = true then (spec_RealTime.l0 k l0 l1 0) else (some false)) = some r := H
  have A3 := Aside0.mk A30
  clear A30
  by_cases c4 : t472 = true
  · subst c4
    have H1 : (spec_RealTime.l0 k l0 l1 0) = some r := by rw [if_pos rfl] at H; exact H
    clear H
    have H := H1
    clear H1
    have H' := Aside0.mk H
    clear H
    go_enter Try.func22, Try.ntmps22
    go_wp2_with (first | (go_at_call 81; (with_reducible refine (spec_OrderValid.calls k (l0.length : Int) _ _ l1 true _ ?side1 ?side2 A3.out).mono ?_); (case side1 => exact cc HR1.out); (case side2 => exact HC1.out); rintro e w' ⟨rfl, ⟨nd, rfl⟩⟩; (try first | exact ⟨rfl, _, World.drewN_drewN _ _ _⟩ | exact ⟨rfl, _, Eq.trans (World.drewN_drewN _ _ _) (congrArg (World.drewN _) (Nat.add_assoc _ _ _))⟩)))
    repeat (go_quiet (first | (go_at_call 81; (with_reducible refine (spec_OrderValid.calls k (l0.length : Int) _ _ l1 true _ ?side1 ?side2 A3.out).mono ?_); (case side1 => exact cc HR1.out); (case side2 => exact HC1.out); rintro e w' ⟨rfl, ⟨nd, rfl⟩⟩; (try first | exact ⟨rfl, _, World.drewN_drewN _ _ _⟩ | exact ⟨rfl, _, Eq.trans (World.drewN_drewN _ _ _) (congrArg (World.drewN _) (Nat.add_assoc _ _ _))⟩))); try go_wp2_with (first | (go_at_call 81; (with_reducible refine (spec_OrderValid.calls k (l0.length : Int) _ _ l1 true _ ?side1 ?side2 A3.out).mono ?_); (case side1 => exact cc HR1.out); (case side2 => exact HC1.out); rintro e w' ⟨rfl, ⟨nd, rfl⟩⟩; (try first | exact ⟨rfl, _, World.drewN_drewN _ _ _⟩ | exact ⟨rfl, _, Eq.trans (World.drewN_drewN _ _ _) (congrArg (World.drewN _) (Nat.add_assoc _ _ _))⟩))))
    go_loopg [5] k (fun kq v5 w' => ∃ (x5_1 : Int), v5 = .int .i64 x5_1 ∧ Aside0 (spec_RealTime.l0 kq l0 l1 x5_1 = some r) ∧ Aside0 (kq ≤ k) ∧ Aside0 (Below w.heap.size w w'))
    case atStart => exact ⟨(0), (by first | rfl | (simp; done) | (simp [*]; done) | (simp [bne_nil_, beq_nil_]; done)), H', ⟨Nat.le_refl _⟩, ⟨bp HB.out⟩⟩
    case round =>
      clear H'
      try clear c1
      try clear c2
      try clear p2
      try clear c4
      obtain ⟨x5_1, rfl, HA, HK1, HB⟩ := hrel
      cases gk with
      | zero => exact absurd HA.out (by simp [spec_RealTime.l0])
      | succ k1 =>
        have H := HA.out
        clear HA
        simp only [spec_RealTime.l0] at H
        by_cases c5 : x5_1 < (l1.length : Int)
        · rw [if_pos c5] at H
          have c5b0 : decide (x5_1 < (l1.length : Int)) = true := decide_eq_true c5
          clear c5
          by_cases c6 : 0 ≤ x5_1
          · rw [if_pos c6] at H
            have c6b0 : decide (0 ≤ x5_1) = true := decide_eq_true c6
            clear c6
            by_cases c7 : 0 ≤ (rd l1 x5_1)
            · rw [if_pos c7] at H
              have c7b0 : decide (0 ≤ (rd l1 x5_1)) = true := decide_eq_true c7
              clear c7
              by_cases c8 : (rd l1 x5_1) < (l0.length : Int)
              · rw [if_pos c8] at H
                have c8b0 : decide ((rd l1 x5_1) < (l0.length : Int)) = true := decide_eq_true c8
                clear c8
                replace H := Option.bind_eq_some_iff.mp H
                obtain ⟨t476, A90, H⟩ := H
                replace H : (if t476 = true then (spec_RealTime.l1 k1 l0 l1 x5_1 (wrap64 (x5_1 + 1)) ((rd_T42 l0 (rd l1 x5_1)).f0) ((rd_T42 l0 (rd l1 x5_1)).f1) ((rd_T42 l0 (rd l1 x5_1)).f2.f0) ((rd_T42 l0 (rd l1 x5_1)).f2.f1) ((rd_T42 l0 (rd l1 x5_1)).f2.f2) ((rd_T42 l0 (rd l1 x5_1)).f2.f3) ((rd_T42 l0 (rd l1 x5_1)).f3) ((rd_T42 l0 (rd l1 x5_1)).f4) ((rd_T42 l0 (rd l1 x5_1)).f5)) else (some false)) = some r := H
                have A9 := Aside0.mk A90
                clear A90
                by_cases c10 : t476 = true
                · subst c10
                  have H1 : (spec_RealTime.l1 k1 l0 l1 x5_1 (wrap64 (x5_1 + 1)) ((rd_T42 l0 (rd l1 x5_1)).f0) ((rd_T42 l0 (rd l1 x5_1)).f1) ((rd_T42 l0 (rd l1 x5_1)).f2.f0) ((rd_T42 l0 (rd l1 x5_1)).f2.f1) ((rd_T42 l0 (rd l1 x5_1)).f2.f2) ((rd_T42 l0 (rd l1 x5_1)).f2.f3) ((rd_T42 l0 (rd l1 x5_1)).f3) ((rd_T42 l0 (rd l1 x5_1)).f4) ((rd_T42 l0 (rd l1 x5_1)).f5)) = some r := by rw [if_pos rfl] at H; exact H
                  clear H
                  have H := H1
                  clear H1
                  have H' := Aside0.mk H
                  clear H
                  have p473 : 0 ≤ (x5_1 : Int) := of_decide_eq_true (by first | (with_reducible assumption) | assumption)
                  have q473 : x5_1 < (l1.length : Int) := of_decide_eq_true (by first | (with_reducible assumption) | assumption)
                  obtain ⟨ad473, e473, hx473_0⟩ := Kd.at_int HR1.out x5_1 p473 q473
                  cases e473
                  replace hx473_0 := hcx HB hx473_0
                  replace p473 := eq_true p473
                  replace q473 := eq_true q473
                  have p474 : 0 ≤ ((rd l1 x5_1) : Int) := of_decide_eq_true (by first | (with_reducible assumption) | assumption)
                  have q474 : (rd l1 x5_1) < (l0.length : Int) := of_decide_eq_true (by first | (with_reducible assumption) | assumption)
                  obtain ⟨ad474, e474, hx474_0, hx474_1, hx474_2, hx474_3, hx474_4, hx474_5, hx474_6, hx474_7, hx474_8⟩ := at_T42 HR0.out (rd l1 x5_1) p474 q474
                  cases e474
                  replace hx474_0 := hcx HB hx474_0
                  replace hx474_1 := hcx HB hx474_1
                  replace hx474_2 := hcx HB hx474_2
                  replace hx474_3 := hcx HB hx474_3
                  replace hx474_4 := hcx HB hx474_4
                  replace hx474_5 := hcx HB hx474_5
                  replace hx474_6 := hcx HB hx474_6
                  replace hx474_7 := hcx HB hx474_7
                  replace hx474_8 := hcx HB hx474_8
                  replace p474 := eq_true p474
                  replace q474 := eq_true q474
                  go_wp2_with (first | ((with_reducible refine gate_dst (N := 6) rfl ?_); refine bxe (N := 6) (cs := #[.int .i64 0, .int .i64 0, .int .i64 0, .string (⟨#[]⟩ : ByteArray), .int .i64 0, .int .i64 0, .int .i64 0, .int .i64 0, .int .i64 0]) (t := 42) ?_; intro gb475 hg w11 hbox hb; have BK475 := Aside0.mk (hbox); have GW475 := an2 HB hg; have GE475 := an2 HB hg; replace HB := an0 HB hb; clear hb hbox hg; obtain ⟨hcz12_0, hcz12_1, hcz12_2, hcz12_3, hcz12_4, hcz12_5, hcz12_6, hcz12_7, hcz12_8, hfz12_0, hfz12_1, hfz12_2, hfz12_3, hfz12_4, hfz12_5, hfz12_6, hfz12_7, hfz12_8⟩ := cl9 BK475) | (go_at_call 82; (with_reducible refine (spec_ResultValid.calls k1 ((rd_T42 l0 (rd l1 x5_1)).f0) ((rd_T42 l0 (rd l1 x5_1)).f1) ((rd_T42 l0 (rd l1 x5_1)).f2.f0) ((rd_T42 l0 (rd l1 x5_1)).f2.f1) ((rd_T42 l0 (rd l1 x5_1)).f2.f2) ((rd_T42 l0 (rd l1 x5_1)).f2.f3) ((rd_T42 l0 (rd l1 x5_1)).f3) ((rd_T42 l0 (rd l1 x5_1)).f4) ((rd_T42 l0 (rd l1 x5_1)).f5) true _ A9.out).mono ?_); rintro e w13 ⟨rfl, hb⟩; have n0_ := Aside0.mk (blk_below (g := gb475) (o := .cells #[.int .i64 ((rd_T42 l0 (rd l1 x5_1)).f0), .int .i64 ((rd_T42 l0 (rd l1 x5_1)).f1), .int .i64 ((rd_T42 l0 (rd l1 x5_1)).f2.f0), .string ((rd_T42 l0 (rd l1 x5_1)).f2.f1), .int .i64 ((rd_T42 l0 (rd l1 x5_1)).f2.f2), .int .i64 ((rd_T42 l0 (rd l1 x5_1)).f2.f3), .int .i64 ((rd_T42 l0 (rd l1 x5_1)).f3), .int .i64 ((rd_T42 l0 (rd l1 x5_1)).f4), .int .i64 ((rd_T42 l0 (rd l1 x5_1)).f5)] 42 (0, 0)) (by (with_reducible repeat (first | refine blk_drewN ?_ _ | refine blk_drew ?_ | refine blk_alloc ?_ _)); refine blk_put (cs := #[.int .i64 ((rd_T42 l0 (rd l1 x5_1)).f0), .int .i64 ((rd_T42 l0 (rd l1 x5_1)).f1), .int .i64 ((rd_T42 l0 (rd l1 x5_1)).f2.f0), .string ((rd_T42 l0 (rd l1 x5_1)).f2.f1), .int .i64 ((rd_T42 l0 (rd l1 x5_1)).f2.f2), .int .i64 ((rd_T42 l0 (rd l1 x5_1)).f2.f3), .int .i64 ((rd_T42 l0 (rd l1 x5_1)).f3), .int .i64 ((rd_T42 l0 (rd l1 x5_1)).f4), .int .i64 0]) ?_ 8 _ rfl; (with_reducible repeat (first | refine blk_drewN ?_ _ | refine blk_drew ?_ | refine blk_alloc ?_ _)); refine blk_put (cs := #[.int .i64 ((rd_T42 l0 (rd l1 x5_1)).f0), .int .i64 ((rd_T42 l0 (rd l1 x5_1)).f1), .int .i64 ((rd_T42 l0 (rd l1 x5_1)).f2.f0), .string ((rd_T42 l0 (rd l1 x5_1)).f2.f1), .int .i64 ((rd_T42 l0 (rd l1 x5_1)).f2.f2), .int .i64 ((rd_T42 l0 (rd l1 x5_1)).f2.f3), .int .i64 ((rd_T42 l0 (rd l1 x5_1)).f3), .int .i64 0, .int .i64 0]) ?_ 7 _ rfl; (with_reducible repeat (first | refine blk_drewN ?_ _ | refine blk_drew ?_ | refine blk_alloc ?_ _)); refine blk_put (cs := #[.int .i64 ((rd_T42 l0 (rd l1 x5_1)).f0), .int .i64 ((rd_T42 l0 (rd l1 x5_1)).f1), .int .i64 ((rd_T42 l0 (rd l1 x5_1)).f2.f0), .string ((rd_T42 l0 (rd l1 x5_1)).f2.f1), .int .i64 ((rd_T42 l0 (rd l1 x5_1)).f2.f2), .int .i64 ((rd_T42 l0 (rd l1 x5_1)).f2.f3), .int .i64 0, .int .i64 0, .int .i64 0]) ?_ 6 _ rfl; (with_reducible repeat (first | refine blk_drewN ?_ _ | refine blk_drew ?_ | refine blk_alloc ?_ _)); refine blk_put (cs := #[.int .i64 ((rd_T42 l0 (rd l1 x5_1)).f0), .int .i64 ((rd_T42 l0 (rd l1 x5_1)).f1), .int .i64 ((rd_T42 l0 (rd l1 x5_1)).f2.f0), .string ((rd_T42 l0 (rd l1 x5_1)).f2.f1), .int .i64 ((rd_T42 l0 (rd l1 x5_1)).f2.f2), .int .i64 0, .int .i64 0, .int .i64 0, .int .i64 0]) ?_ 5 _ rfl; (with_reducible repeat (first | refine blk_drewN ?_ _ | refine blk_drew ?_ | refine blk_alloc ?_ _)); refine blk_put (cs := #[.int .i64 ((rd_T42 l0 (rd l1 x5_1)).f0), .int .i64 ((rd_T42 l0 (rd l1 x5_1)).f1), .int .i64 ((rd_T42 l0 (rd l1 x5_1)).f2.f0), .string ((rd_T42 l0 (rd l1 x5_1)).f2.f1), .int .i64 0, .int .i64 0, .int .i64 0, .int .i64 0, .int .i64 0]) ?_ 4 _ rfl; (with_reducible repeat (first | refine blk_drewN ?_ _ | refine blk_drew ?_ | refine blk_alloc ?_ _)); refine blk_put (cs := #[.int .i64 ((rd_T42 l0 (rd l1 x5_1)).f0), .int .i64 ((rd_T42 l0 (rd l1 x5_1)).f1), .int .i64 ((rd_T42 l0 (rd l1 x5_1)).f2.f0), .string (⟨#[]⟩ : ByteArray), .int .i64 0, .int .i64 0, .int .i64 0, .int .i64 0, .int .i64 0]) ?_ 3 _ rfl; (with_reducible repeat (first | refine blk_drewN ?_ _ | refine blk_drew ?_ | refine blk_alloc ?_ _)); refine blk_put (cs := #[.int .i64 ((rd_T42 l0 (rd l1 x5_1)).f0), .int .i64 ((rd_T42 l0 (rd l1 x5_1)).f1), .int .i64 0, .string (⟨#[]⟩ : ByteArray), .int .i64 0, .int .i64 0, .int .i64 0, .int .i64 0, .int .i64 0]) ?_ 2 _ rfl; (with_reducible repeat (first | refine blk_drewN ?_ _ | refine blk_drew ?_ | refine blk_alloc ?_ _)); refine blk_put (cs := #[.int .i64 ((rd_T42 l0 (rd l1 x5_1)).f0), .int .i64 0, .int .i64 0, .string (⟨#[]⟩ : ByteArray), .int .i64 0, .int .i64 0, .int .i64 0, .int .i64 0, .int .i64 0]) ?_ 1 _ rfl; (with_reducible repeat (first | refine blk_drewN ?_ _ | refine blk_drew ?_ | refine blk_alloc ?_ _)); refine blk_put (cs := #[.int .i64 0, .int .i64 0, .int .i64 0, .string (⟨#[]⟩ : ByteArray), .int .i64 0, .int .i64 0, .int .i64 0, .int .i64 0, .int .i64 0]) ?_ 0 _ rfl; (with_reducible repeat (first | refine blk_drewN ?_ _ | refine blk_drew ?_ | refine blk_alloc ?_ _)); exact BK475.out) hb); have n1_ := an0 HB hb; clear BK475; clear HB; have BK475 := n0_; have HB := n1_; clear n0_ n1_; (try clear hb); (try clear hb2); (try clear hk); (try clear hi)))
                  repeat (go_quiet (first | ((with_reducible refine gate_dst (N := 6) rfl ?_); refine bxe (N := 6) (cs := #[.int .i64 0, .int .i64 0, .int .i64 0, .string (⟨#[]⟩ : ByteArray), .int .i64 0, .int .i64 0, .int .i64 0, .int .i64 0, .int .i64 0]) (t := 42) ?_; intro gb475 hg w11 hbox hb; have BK475 := Aside0.mk (hbox); have GW475 := an2 HB hg; have GE475 := an2 HB hg; replace HB := an0 HB hb; clear hb hbox hg; obtain ⟨hcz12_0, hcz12_1, hcz12_2, hcz12_3, hcz12_4, hcz12_5, hcz12_6, hcz12_7, hcz12_8, hfz12_0, hfz12_1, hfz12_2, hfz12_3, hfz12_4, hfz12_5, hfz12_6, hfz12_7, hfz12_8⟩ := cl9 BK475) | (go_at_call 82; (with_reducible refine (spec_ResultValid.calls k1 ((rd_T42 l0 (rd l1 x5_1)).f0) ((rd_T42 l0 (rd l1 x5_1)).f1) ((rd_T42 l0 (rd l1 x5_1)).f2.f0) ((rd_T42 l0 (rd l1 x5_1)).f2.f1) ((rd_T42 l0 (rd l1 x5_1)).f2.f2) ((rd_T42 l0 (rd l1 x5_1)).f2.f3) ((rd_T42 l0 (rd l1 x5_1)).f3) ((rd_T42 l0 (rd l1 x5_1)).f4) ((rd_T42 l0 (rd l1 x5_1)).f5) true _ A9.out).mono ?_); rintro e w13 ⟨rfl, hb⟩; have n0_ := Aside0.mk (blk_below (g := gb475) (o := .cells #[.int .i64 ((rd_T42 l0 (rd l1 x5_1)).f0), .int .i64 ((rd_T42 l0 (rd l1 x5_1)).f1), .int .i64 ((rd_T42 l0 (rd l1 x5_1)).f2.f0), .string ((rd_T42 l0 (rd l1 x5_1)).f2.f1), .int .i64 ((rd_T42 l0 (rd l1 x5_1)).f2.f2), .int .i64 ((rd_T42 l0 (rd l1 x5_1)).f2.f3), .int .i64 ((rd_T42 l0 (rd l1 x5_1)).f3), .int .i64 ((rd_T42 l0 (rd l1 x5_1)).f4), .int .i64 ((rd_T42 l0 (rd l1 x5_1)).f5)] 42 (0, 0)) (by (with_reducible repeat (first | refine blk_drewN ?_ _ | refine blk_drew ?_ | refine blk_alloc ?_ _)); refine blk_put (cs := #[.int .i64 ((rd_T42 l0 (rd l1 x5_1)).f0), .int .i64 ((rd_T42 l0 (rd l1 x5_1)).f1), .int .i64 ((rd_T42 l0 (rd l1 x5_1)).f2.f0), .string ((rd_T42 l0 (rd l1 x5_1)).f2.f1), .int .i64 ((rd_T42 l0 (rd l1 x5_1)).f2.f2), .int .i64 ((rd_T42 l0 (rd l1 x5_1)).f2.f3), .int .i64 ((rd_T42 l0 (rd l1 x5_1)).f3), .int .i64 ((rd_T42 l0 (rd l1 x5_1)).f4), .int .i64 0]) ?_ 8 _ rfl; (with_reducible repeat (first | refine blk_drewN ?_ _ | refine blk_drew ?_ | refine blk_alloc ?_ _)); refine blk_put (cs := #[.int .i64 ((rd_T42 l0 (rd l1 x5_1)).f0), .int .i64 ((rd_T42 l0 (rd l1 x5_1)).f1), .int .i64 ((rd_T42 l0 (rd l1 x5_1)).f2.f0), .string ((rd_T42 l0 (rd l1 x5_1)).f2.f1), .int .i64 ((rd_T42 l0 (rd l1 x5_1)).f2.f2), .int .i64 ((rd_T42 l0 (rd l1 x5_1)).f2.f3), .int .i64 ((rd_T42 l0 (rd l1 x5_1)).f3), .int .i64 0, .int .i64 0]) ?_ 7 _ rfl; (with_reducible repeat (first | refine blk_drewN ?_ _ | refine blk_drew ?_ | refine blk_alloc ?_ _)); refine blk_put (cs := #[.int .i64 ((rd_T42 l0 (rd l1 x5_1)).f0), .int .i64 ((rd_T42 l0 (rd l1 x5_1)).f1), .int .i64 ((rd_T42 l0 (rd l1 x5_1)).f2.f0), .string ((rd_T42 l0 (rd l1 x5_1)).f2.f1), .int .i64 ((rd_T42 l0 (rd l1 x5_1)).f2.f2), .int .i64 ((rd_T42 l0 (rd l1 x5_1)).f2.f3), .int .i64 0, .int .i64 0, .int .i64 0]) ?_ 6 _ rfl; (with_reducible repeat (first | refine blk_drewN ?_ _ | refine blk_drew ?_ | refine blk_alloc ?_ _)); refine blk_put (cs := #[.int .i64 ((rd_T42 l0 (rd l1 x5_1)).f0), .int .i64 ((rd_T42 l0 (rd l1 x5_1)).f1), .int .i64 ((rd_T42 l0 (rd l1 x5_1)).f2.f0), .string ((rd_T42 l0 (rd l1 x5_1)).f2.f1), .int .i64 ((rd_T42 l0 (rd l1 x5_1)).f2.f2), .int .i64 0, .int .i64 0, .int .i64 0, .int .i64 0]) ?_ 5 _ rfl; (with_reducible repeat (first | refine blk_drewN ?_ _ | refine blk_drew ?_ | refine blk_alloc ?_ _)); refine blk_put (cs := #[.int .i64 ((rd_T42 l0 (rd l1 x5_1)).f0), .int .i64 ((rd_T42 l0 (rd l1 x5_1)).f1), .int .i64 ((rd_T42 l0 (rd l1 x5_1)).f2.f0), .string ((rd_T42 l0 (rd l1 x5_1)).f2.f1), .int .i64 0, .int .i64 0, .int .i64 0, .int .i64 0, .int .i64 0]) ?_ 4 _ rfl; (with_reducible repeat (first | refine blk_drewN ?_ _ | refine blk_drew ?_ | refine blk_alloc ?_ _)); refine blk_put (cs := #[.int .i64 ((rd_T42 l0 (rd l1 x5_1)).f0), .int .i64 ((rd_T42 l0 (rd l1 x5_1)).f1), .int .i64 ((rd_T42 l0 (rd l1 x5_1)).f2.f0), .string (⟨#[]⟩ : ByteArray), .int .i64 0, .int .i64 0, .int .i64 0, .int .i64 0, .int .i64 0]) ?_ 3 _ rfl; (with_reducible repeat (first | refine blk_drewN ?_ _ | refine blk_drew ?_ | refine blk_alloc ?_ _)); refine blk_put (cs := #[.int .i64 ((rd_T42 l0 (rd l1 x5_1)).f0), .int .i64 ((rd_T42 l0 (rd l1 x5_1)).f1), .int .i64 0, .string (⟨#[]⟩ : ByteArray), .int .i64 0, .int .i64 0, .int .i64 0, .int .i64 0, .int .i64 0]) ?_ 2 _ rfl; (with_reducible repeat (first | refine blk_drewN ?_ _ | refine blk_drew ?_ | refine blk_alloc ?_ _)); refine blk_put (cs := #[.int .i64 ((rd_T42 l0 (rd l1 x5_1)).f0), .int .i64 0, .int .i64 0, .string (⟨#[]⟩ : ByteArray), .int .i64 0, .int .i64 0, .int .i64 0, .int .i64 0, .int .i64 0]) ?_ 1 _ rfl; (with_reducible repeat (first | refine blk_drewN ?_ _ | refine blk_drew ?_ | refine blk_alloc ?_ _)); refine blk_put (cs := #[.int .i64 0, .int .i64 0, .int .i64 0, .string (⟨#[]⟩ : ByteArray), .int .i64 0, .int .i64 0, .int .i64 0, .int .i64 0, .int .i64 0]) ?_ 0 _ rfl; (with_reducible repeat (first | refine blk_drewN ?_ _ | refine blk_drew ?_ | refine blk_alloc ?_ _)); exact BK475.out) hb); have n1_ := an0 HB hb; clear BK475; clear HB; have BK475 := n0_; have HB := n1_; clear n0_ n1_; (try clear hb); (try clear hb2); (try clear hk); (try clear hi))); try go_wp2_with (first | ((with_reducible refine gate_dst (N := 6) rfl ?_); refine bxe (N := 6) (cs := #[.int .i64 0, .int .i64 0, .int .i64 0, .string (⟨#[]⟩ : ByteArray), .int .i64 0, .int .i64 0, .int .i64 0, .int .i64 0, .int .i64 0]) (t := 42) ?_; intro gb475 hg w11 hbox hb; have BK475 := Aside0.mk (hbox); have GW475 := an2 HB hg; have GE475 := an2 HB hg; replace HB := an0 HB hb; clear hb hbox hg; obtain ⟨hcz12_0, hcz12_1, hcz12_2, hcz12_3, hcz12_4, hcz12_5, hcz12_6, hcz12_7, hcz12_8, hfz12_0, hfz12_1, hfz12_2, hfz12_3, hfz12_4, hfz12_5, hfz12_6, hfz12_7, hfz12_8⟩ := cl9 BK475) | (go_at_call 82; (with_reducible refine (spec_ResultValid.calls k1 ((rd_T42 l0 (rd l1 x5_1)).f0) ((rd_T42 l0 (rd l1 x5_1)).f1) ((rd_T42 l0 (rd l1 x5_1)).f2.f0) ((rd_T42 l0 (rd l1 x5_1)).f2.f1) ((rd_T42 l0 (rd l1 x5_1)).f2.f2) ((rd_T42 l0 (rd l1 x5_1)).f2.f3) ((rd_T42 l0 (rd l1 x5_1)).f3) ((rd_T42 l0 (rd l1 x5_1)).f4) ((rd_T42 l0 (rd l1 x5_1)).f5) true _ A9.out).mono ?_); rintro e w13 ⟨rfl, hb⟩; have n0_ := Aside0.mk (blk_below (g := gb475) (o := .cells #[.int .i64 ((rd_T42 l0 (rd l1 x5_1)).f0), .int .i64 ((rd_T42 l0 (rd l1 x5_1)).f1), .int .i64 ((rd_T42 l0 (rd l1 x5_1)).f2.f0), .string ((rd_T42 l0 (rd l1 x5_1)).f2.f1), .int .i64 ((rd_T42 l0 (rd l1 x5_1)).f2.f2), .int .i64 ((rd_T42 l0 (rd l1 x5_1)).f2.f3), .int .i64 ((rd_T42 l0 (rd l1 x5_1)).f3), .int .i64 ((rd_T42 l0 (rd l1 x5_1)).f4), .int .i64 ((rd_T42 l0 (rd l1 x5_1)).f5)] 42 (0, 0)) (by (with_reducible repeat (first | refine blk_drewN ?_ _ | refine blk_drew ?_ | refine blk_alloc ?_ _)); refine blk_put (cs := #[.int .i64 ((rd_T42 l0 (rd l1 x5_1)).f0), .int .i64 ((rd_T42 l0 (rd l1 x5_1)).f1), .int .i64 ((rd_T42 l0 (rd l1 x5_1)).f2.f0), .string ((rd_T42 l0 (rd l1 x5_1)).f2.f1), .int .i64 ((rd_T42 l0 (rd l1 x5_1)).f2.f2), .int .i64 ((rd_T42 l0 (rd l1 x5_1)).f2.f3), .int .i64 ((rd_T42 l0 (rd l1 x5_1)).f3), .int .i64 ((rd_T42 l0 (rd l1 x5_1)).f4), .int .i64 0]) ?_ 8 _ rfl; (with_reducible repeat (first | refine blk_drewN ?_ _ | refine blk_drew ?_ | refine blk_alloc ?_ _)); refine blk_put (cs := #[.int .i64 ((rd_T42 l0 (rd l1 x5_1)).f0), .int .i64 ((rd_T42 l0 (rd l1 x5_1)).f1), .int .i64 ((rd_T42 l0 (rd l1 x5_1)).f2.f0), .string ((rd_T42 l0 (rd l1 x5_1)).f2.f1), .int .i64 ((rd_T42 l0 (rd l1 x5_1)).f2.f2), .int .i64 ((rd_T42 l0 (rd l1 x5_1)).f2.f3), .int .i64 ((rd_T42 l0 (rd l1 x5_1)).f3), .int .i64 0, .int .i64 0]) ?_ 7 _ rfl; (with_reducible repeat (first | refine blk_drewN ?_ _ | refine blk_drew ?_ | refine blk_alloc ?_ _)); refine blk_put (cs := #[.int .i64 ((rd_T42 l0 (rd l1 x5_1)).f0), .int .i64 ((rd_T42 l0 (rd l1 x5_1)).f1), .int .i64 ((rd_T42 l0 (rd l1 x5_1)).f2.f0), .string ((rd_T42 l0 (rd l1 x5_1)).f2.f1), .int .i64 ((rd_T42 l0 (rd l1 x5_1)).f2.f2), .int .i64 ((rd_T42 l0 (rd l1 x5_1)).f2.f3), .int .i64 0, .int .i64 0, .int .i64 0]) ?_ 6 _ rfl; (with_reducible repeat (first | refine blk_drewN ?_ _ | refine blk_drew ?_ | refine blk_alloc ?_ _)); refine blk_put (cs := #[.int .i64 ((rd_T42 l0 (rd l1 x5_1)).f0), .int .i64 ((rd_T42 l0 (rd l1 x5_1)).f1), .int .i64 ((rd_T42 l0 (rd l1 x5_1)).f2.f0), .string ((rd_T42 l0 (rd l1 x5_1)).f2.f1), .int .i64 ((rd_T42 l0 (rd l1 x5_1)).f2.f2), .int .i64 0, .int .i64 0, .int .i64 0, .int .i64 0]) ?_ 5 _ rfl; (with_reducible repeat (first | refine blk_drewN ?_ _ | refine blk_drew ?_ | refine blk_alloc ?_ _)); refine blk_put (cs := #[.int .i64 ((rd_T42 l0 (rd l1 x5_1)).f0), .int .i64 ((rd_T42 l0 (rd l1 x5_1)).f1), .int .i64 ((rd_T42 l0 (rd l1 x5_1)).f2.f0), .string ((rd_T42 l0 (rd l1 x5_1)).f2.f1), .int .i64 0, .int .i64 0, .int .i64 0, .int .i64 0, .int .i64 0]) ?_ 4 _ rfl; (with_reducible repeat (first | refine blk_drewN ?_ _ | refine blk_drew ?_ | refine blk_alloc ?_ _)); refine blk_put (cs := #[.int .i64 ((rd_T42 l0 (rd l1 x5_1)).f0), .int .i64 ((rd_T42 l0 (rd l1 x5_1)).f1), .int .i64 ((rd_T42 l0 (rd l1 x5_1)).f2.f0), .string (⟨#[]⟩ : ByteArray), .int .i64 0, .int .i64 0, .int .i64 0, .int .i64 0, .int .i64 0]) ?_ 3 _ rfl; (with_reducible repeat (first | refine blk_drewN ?_ _ | refine blk_drew ?_ | refine blk_alloc ?_ _)); refine blk_put (cs := #[.int .i64 ((rd_T42 l0 (rd l1 x5_1)).f0), .int .i64 ((rd_T42 l0 (rd l1 x5_1)).f1), .int .i64 0, .string (⟨#[]⟩ : ByteArray), .int .i64 0, .int .i64 0, .int .i64 0, .int .i64 0, .int .i64 0]) ?_ 2 _ rfl; (with_reducible repeat (first | refine blk_drewN ?_ _ | refine blk_drew ?_ | refine blk_alloc ?_ _)); refine blk_put (cs := #[.int .i64 ((rd_T42 l0 (rd l1 x5_1)).f0), .int .i64 0, .int .i64 0, .string (⟨#[]⟩ : ByteArray), .int .i64 0, .int .i64 0, .int .i64 0, .int .i64 0, .int .i64 0]) ?_ 1 _ rfl; (with_reducible repeat (first | refine blk_drewN ?_ _ | refine blk_drew ?_ | refine blk_alloc ?_ _)); refine blk_put (cs := #[.int .i64 0, .int .i64 0, .int .i64 0, .string (⟨#[]⟩ : ByteArray), .int .i64 0, .int .i64 0, .int .i64 0, .int .i64 0, .int .i64 0]) ?_ 0 _ rfl; (with_reducible repeat (first | refine blk_drewN ?_ _ | refine blk_drew ?_ | refine blk_alloc ?_ _)); exact BK475.out) hb); have n1_ := an0 HB hb; clear BK475; clear HB; have BK475 := n0_; have HB := n1_; clear n0_ n1_; (try clear hb); (try clear hb2); (try clear hk); (try clear hi))))
                  go_loopg [7] k1 (fun kq v7 w' => ∃ (x7_2 : Int), v7 = .int .i64 x7_2 ∧ Aside0 (spec_RealTime.l1 kq l0 l1 x5_1 x7_2 ((rd_T42 l0 (rd l1 x5_1)).f0) ((rd_T42 l0 (rd l1 x5_1)).f1) ((rd_T42 l0 (rd l1 x5_1)).f2.f0) ((rd_T42 l0 (rd l1 x5_1)).f2.f1) ((rd_T42 l0 (rd l1 x5_1)).f2.f2) ((rd_T42 l0 (rd l1 x5_1)).f2.f3) ((rd_T42 l0 (rd l1 x5_1)).f3) ((rd_T42 l0 (rd l1 x5_1)).f4) ((rd_T42 l0 (rd l1 x5_1)).f5) = some r) ∧ Aside0 (kq ≤ k1) ∧ Aside0 (w'.heap[gb475]? = some (.cells #[.int .i64 ((rd_T42 l0 (rd l1 x5_1)).f0), .int .i64 ((rd_T42 l0 (rd l1 x5_1)).f1), .int .i64 ((rd_T42 l0 (rd l1 x5_1)).f2.f0), .string ((rd_T42 l0 (rd l1 x5_1)).f2.f1), .int .i64 ((rd_T42 l0 (rd l1 x5_1)).f2.f2), .int .i64 ((rd_T42 l0 (rd l1 x5_1)).f2.f3), .int .i64 ((rd_T42 l0 (rd l1 x5_1)).f3), .int .i64 ((rd_T42 l0 (rd l1 x5_1)).f4), .int .i64 ((rd_T42 l0 (rd l1 x5_1)).f5)] 42 (0, 0))) ∧ Aside0 (Below w.heap.size w w'))
                  case atStart => exact ⟨(wrap64 (x5_1 + 1)), (by first | rfl | (simp; done) | (simp [*]; done) | (simp [bne_nil_, beq_nil_]; done)), H', ⟨Nat.le_refl _⟩, ⟨kb BK475.out⟩, ⟨bp HB.out⟩⟩
                  case round =>
                    clear H'
                    try clear c1
                    try clear c2
                    try clear p2
                    try clear c4
                    try clear p4
                    try clear q4
                    try clear hx4
                    try clear c5
                    try clear c5b0
                    try clear c6
                    try clear c6b0
                    try clear p6
                    try clear c7
                    try clear c7b0
                    try clear c8
                    try clear c8b0
                    try clear c10
                    try clear hcz12_0
                    try clear hcz12_1
                    try clear hcz12_2
                    try clear hcz12_3
                    try clear hcz12_4
                    try clear hcz12_5
                    try clear hcz12_6
                    try clear hcz12_7
                    try clear hcz12_8
                    try clear hfz12_0
                    try clear hfz12_1
                    try clear hfz12_2
                    try clear hfz12_3
                    try clear hfz12_4
                    try clear hfz12_5
                    try clear hfz12_6
                    try clear hfz12_7
                    try clear hfz12_8
                    try clear hx473_0
                    try clear hx474_0
                    try clear hx474_1
                    try clear hx474_2
                    try clear hx474_3
                    try clear hx474_4
                    try clear hx474_5
                    try clear hx474_6
                    try clear hx474_7
                    try clear hx474_8
                    try clear p2
                    try clear p473
                    try clear p474
                    try clear q473
                    try clear q474
                    obtain ⟨x7_2, rfl, HA, HK2, BK475, HB⟩ := hrel
                    cases gk with
                    | zero => exact absurd HA.out (by simp [spec_RealTime.l1])
                    | succ k2 =>
                      have H := HA.out
                      clear HA
                      simp only [spec_RealTime.l1] at H
                      by_cases c14 : x7_2 < (l1.length : Int)
                      · rw [if_pos c14] at H
                        have c14b0 : decide (x7_2 < (l1.length : Int)) = true := decide_eq_true c14
                        clear c14
                        by_cases c15 : 0 ≤ x7_2
                        · rw [if_pos c15] at H
                          have c15b0 : decide (0 ≤ x7_2) = true := decide_eq_true c15
                          clear c15
                          by_cases c16 : 0 ≤ (rd l1 x7_2)
                          · rw [if_pos c16] at H
                            have c16b0 : decide (0 ≤ (rd l1 x7_2)) = true := decide_eq_true c16
                            clear c16
                            by_cases c17 : (rd l1 x7_2) < (l0.length : Int)
                            · rw [if_pos c17] at H
                              have c17b0 : decide ((rd l1 x7_2) < (l0.length : Int)) = true := decide_eq_true c17
                              clear c17
                              by_cases c18 : ((rd_T42 l0 (rd l1 x7_2)).f5) < ((rd_T42 l0 (rd l1 x5_1)).f4)
                              · rw [if_pos c18] at H
                                have c18b0 : decide (((rd_T42 l0 (rd l1 x7_2)).f5) < ((rd_T42 l0 (rd l1 x5_1)).f4)) = true := decide_eq_true c18
                                clear c18
                                obtain rfl := Option.some.inj H
                                have p477 : 0 ≤ (x7_2 : Int) := of_decide_eq_true (by first | (with_reducible assumption) | assumption)
                                have q477 : x7_2 < (l1.length : Int) := of_decide_eq_true (by first | (with_reducible assumption) | assumption)
                                obtain ⟨ad477, e477, hx477_0⟩ := Kd.at_int HR1.out x7_2 p477 q477
                                obtain rfl : ad473 = ad477 := (by injection e477)
                                replace hx477_0 := hcx HB hx477_0
                                replace p477 := eq_true p477
                                replace q477 := eq_true q477
                                have p478 : 0 ≤ ((rd l1 x7_2) : Int) := of_decide_eq_true (by first | (with_reducible assumption) | assumption)
                                have q478 : (rd l1 x7_2) < (l0.length : Int) := of_decide_eq_true (by first | (with_reducible assumption) | assumption)
                                obtain ⟨ad478, e478, hx478_0, hx478_1, hx478_2, hx478_3, hx478_4, hx478_5, hx478_6, hx478_7, hx478_8⟩ := at_T42 HR0.out (rd l1 x7_2) p478 q478
                                obtain rfl : ad474 = ad478 := (by injection e478)
                                replace hx478_0 := hcx HB hx478_0
                                replace hx478_1 := hcx HB hx478_1
                                replace hx478_2 := hcx HB hx478_2
                                replace hx478_3 := hcx HB hx478_3
                                replace hx478_4 := hcx HB hx478_4
                                replace hx478_5 := hcx HB hx478_5
                                replace hx478_6 := hcx HB hx478_6
                                replace hx478_7 := hcx HB hx478_7
                                replace hx478_8 := hcx HB hx478_8
                                replace p478 := eq_true p478
                                replace q478 := eq_true q478
                                obtain ⟨hcz19_0, hcz19_1, hcz19_2, hcz19_3, hcz19_4, hcz19_5, hcz19_6, hcz19_7, hcz19_8, hfz19_0, hfz19_1, hfz19_2, hfz19_3, hfz19_4, hfz19_5, hfz19_6, hfz19_7, hfz19_8⟩ := cl9 BK475
                                go_wp2
                                repeat (go_quiet (fail); try go_wp2)
                                go_ret
                                exact ⟨fe, bp HB.out⟩
                              · rw [if_neg c18] at H
                                have c18b0 : decide (((rd_T42 l0 (rd l1 x7_2)).f5) < ((rd_T42 l0 (rd l1 x5_1)).f4)) = false := decide_eq_false c18
                                clear c18
                                have H' := Aside0.mk H
                                clear H
                                have p477 : 0 ≤ (x7_2 : Int) := of_decide_eq_true (by first | (with_reducible assumption) | assumption)
                                have q477 : x7_2 < (l1.length : Int) := of_decide_eq_true (by first | (with_reducible assumption) | assumption)
                                obtain ⟨ad477, e477, hx477_0⟩ := Kd.at_int HR1.out x7_2 p477 q477
                                obtain rfl : ad473 = ad477 := (by injection e477)
                                replace hx477_0 := hcx HB hx477_0
                                replace p477 := eq_true p477
                                replace q477 := eq_true q477
                                have p478 : 0 ≤ ((rd l1 x7_2) : Int) := of_decide_eq_true (by first | (with_reducible assumption) | assumption)
                                have q478 : (rd l1 x7_2) < (l0.length : Int) := of_decide_eq_true (by first | (with_reducible assumption) | assumption)
                                obtain ⟨ad478, e478, hx478_0, hx478_1, hx478_2, hx478_3, hx478_4, hx478_5, hx478_6, hx478_7, hx478_8⟩ := at_T42 HR0.out (rd l1 x7_2) p478 q478
                                obtain rfl : ad474 = ad478 := (by injection e478)
                                replace hx478_0 := hcx HB hx478_0
                                replace hx478_1 := hcx HB hx478_1
                                replace hx478_2 := hcx HB hx478_2
                                replace hx478_3 := hcx HB hx478_3
                                replace hx478_4 := hcx HB hx478_4
                                replace hx478_5 := hcx HB hx478_5
                                replace hx478_6 := hcx HB hx478_6
                                replace hx478_7 := hcx HB hx478_7
                                replace hx478_8 := hcx HB hx478_8
                                replace p478 := eq_true p478
                                replace q478 := eq_true q478
                                obtain ⟨hcz20_0, hcz20_1, hcz20_2, hcz20_3, hcz20_4, hcz20_5, hcz20_6, hcz20_7, hcz20_8, hfz20_0, hfz20_1, hfz20_2, hfz20_3, hfz20_4, hfz20_5, hfz20_6, hfz20_7, hfz20_8⟩ := cl9 BK475
                                go_wp2
                                repeat (go_quiet (fail); try go_wp2)
                                go_roundg k2
                                case measure => have := HK1.out; have := HK2.out; omega
                                case rel => exact ⟨(wrap64 (x7_2 + 1)), (by first | rfl | (simp; done) | (simp [*]; done) | (simp [bne_nil_, beq_nil_]; done)), H', ⟨by have := HK1.out; have := HK2.out; omega⟩, ⟨kb BK475.out⟩, ⟨bp HB.out⟩⟩
                            · rw [if_neg c17] at H
                              exact absurd H (by simp)
                          · rw [if_neg c16] at H
                            exact absurd H (by simp)
                        · rw [if_neg c15] at H
                          exact absurd H (by simp)
                      · rw [if_neg c14] at H
                        have c14b0 : decide (x7_2 < (l1.length : Int)) = false := decide_eq_false c14
                        clear c14
                        have H' := Aside0.mk H
                        clear H
                        go_wp2
                        repeat (go_quiet (fail); try go_wp2)
                        go_roundg k2
                        case measure => have := HK1.out; have := HK2.out; omega
                        case rel => exact ⟨(wrap64 (x5_1 + 1)), (by first | rfl | (simp; done) | (simp [*]; done) | (simp [bne_nil_, beq_nil_]; done)), H', ⟨by have := HK1.out; have := HK2.out; omega⟩, ⟨bp HB.out⟩⟩
                · replace c10 := Bool.eq_false_iff.mpr c10
                  subst c10
                  have H1 : (some false) = some r := by rw [if_neg (show ¬ (false = true) by decide)] at H; exact H
                  clear H
                  have H := H1
                  clear H1
                  obtain rfl := Option.some.inj H
                  have p473 : 0 ≤ (x5_1 : Int) := of_decide_eq_true (by first | (with_reducible assumption) | assumption)
                  have q473 : x5_1 < (l1.length : Int) := of_decide_eq_true (by first | (with_reducible assumption) | assumption)
                  obtain ⟨ad473, e473, hx473_0⟩ := Kd.at_int HR1.out x5_1 p473 q473
                  cases e473
                  replace hx473_0 := hcx HB hx473_0
                  replace p473 := eq_true p473
                  replace q473 := eq_true q473
                  have p474 : 0 ≤ ((rd l1 x5_1) : Int) := of_decide_eq_true (by first | (with_reducible assumption) | assumption)
                  have q474 : (rd l1 x5_1) < (l0.length : Int) := of_decide_eq_true (by first | (with_reducible assumption) | assumption)
                  obtain ⟨ad474, e474, hx474_0, hx474_1, hx474_2, hx474_3, hx474_4, hx474_5, hx474_6, hx474_7, hx474_8⟩ := at_T42 HR0.out (rd l1 x5_1) p474 q474
                  cases e474
                  replace hx474_0 := hcx HB hx474_0
                  replace hx474_1 := hcx HB hx474_1
                  replace hx474_2 := hcx HB hx474_2
                  replace hx474_3 := hcx HB hx474_3
                  replace hx474_4 := hcx HB hx474_4
                  replace hx474_5 := hcx HB hx474_5
                  replace hx474_6 := hcx HB hx474_6
                  replace hx474_7 := hcx HB hx474_7
                  replace hx474_8 := hcx HB hx474_8
                  replace p474 := eq_true p474
                  replace q474 := eq_true q474
                  go_wp2_with (first | ((with_reducible refine gate_dst (N := 6) rfl ?_); refine bxe (N := 6) (cs := #[.int .i64 0, .int .i64 0, .int .i64 0, .string (⟨#[]⟩ : ByteArray), .int .i64 0, .int .i64 0, .int .i64 0, .int .i64 0, .int .i64 0]) (t := 42) ?_; intro gb475 hg w21 hbox hb; have BK475 := Aside0.mk (hbox); have GW475 := an2 HB hg; have GE475 := an2 HB hg; replace HB := an0 HB hb; clear hb hbox hg; obtain ⟨hcz22_0, hcz22_1, hcz22_2, hcz22_3, hcz22_4, hcz22_5, hcz22_6, hcz22_7, hcz22_8, hfz22_0, hfz22_1, hfz22_2, hfz22_3, hfz22_4, hfz22_5, hfz22_6, hfz22_7, hfz22_8⟩ := cl9 BK475) | (go_at_call 82; (with_reducible refine (spec_ResultValid.calls k1 ((rd_T42 l0 (rd l1 x5_1)).f0) ((rd_T42 l0 (rd l1 x5_1)).f1) ((rd_T42 l0 (rd l1 x5_1)).f2.f0) ((rd_T42 l0 (rd l1 x5_1)).f2.f1) ((rd_T42 l0 (rd l1 x5_1)).f2.f2) ((rd_T42 l0 (rd l1 x5_1)).f2.f3) ((rd_T42 l0 (rd l1 x5_1)).f3) ((rd_T42 l0 (rd l1 x5_1)).f4) ((rd_T42 l0 (rd l1 x5_1)).f5) false _ A9.out).mono ?_); rintro e w23 ⟨rfl, hb⟩; have n0_ := Aside0.mk (blk_below (g := gb475) (o := .cells #[.int .i64 ((rd_T42 l0 (rd l1 x5_1)).f0), .int .i64 ((rd_T42 l0 (rd l1 x5_1)).f1), .int .i64 ((rd_T42 l0 (rd l1 x5_1)).f2.f0), .string ((rd_T42 l0 (rd l1 x5_1)).f2.f1), .int .i64 ((rd_T42 l0 (rd l1 x5_1)).f2.f2), .int .i64 ((rd_T42 l0 (rd l1 x5_1)).f2.f3), .int .i64 ((rd_T42 l0 (rd l1 x5_1)).f3), .int .i64 ((rd_T42 l0 (rd l1 x5_1)).f4), .int .i64 ((rd_T42 l0 (rd l1 x5_1)).f5)] 42 (0, 0)) (by (with_reducible repeat (first | refine blk_drewN ?_ _ | refine blk_drew ?_ | refine blk_alloc ?_ _)); refine blk_put (cs := #[.int .i64 ((rd_T42 l0 (rd l1 x5_1)).f0), .int .i64 ((rd_T42 l0 (rd l1 x5_1)).f1), .int .i64 ((rd_T42 l0 (rd l1 x5_1)).f2.f0), .string ((rd_T42 l0 (rd l1 x5_1)).f2.f1), .int .i64 ((rd_T42 l0 (rd l1 x5_1)).f2.f2), .int .i64 ((rd_T42 l0 (rd l1 x5_1)).f2.f3), .int .i64 ((rd_T42 l0 (rd l1 x5_1)).f3), .int .i64 ((rd_T42 l0 (rd l1 x5_1)).f4), .int .i64 0]) ?_ 8 _ rfl; (with_reducible repeat (first | refine blk_drewN ?_ _ | refine blk_drew ?_ | refine blk_alloc ?_ _)); refine blk_put (cs := #[.int .i64 ((rd_T42 l0 (rd l1 x5_1)).f0), .int .i64 ((rd_T42 l0 (rd l1 x5_1)).f1), .int .i64 ((rd_T42 l0 (rd l1 x5_1)).f2.f0), .string ((rd_T42 l0 (rd l1 x5_1)).f2.f1), .int .i64 ((rd_T42 l0 (rd l1 x5_1)).f2.f2), .int .i64 ((rd_T42 l0 (rd l1 x5_1)).f2.f3), .int .i64 ((rd_T42 l0 (rd l1 x5_1)).f3), .int .i64 0, .int .i64 0]) ?_ 7 _ rfl; (with_reducible repeat (first | refine blk_drewN ?_ _ | refine blk_drew ?_ | refine blk_alloc ?_ _)); refine blk_put (cs := #[.int .i64 ((rd_T42 l0 (rd l1 x5_1)).f0), .int .i64 ((rd_T42 l0 (rd l1 x5_1)).f1), .int .i64 ((rd_T42 l0 (rd l1 x5_1)).f2.f0), .string ((rd_T42 l0 (rd l1 x5_1)).f2.f1), .int .i64 ((rd_T42 l0 (rd l1 x5_1)).f2.f2), .int .i64 ((rd_T42 l0 (rd l1 x5_1)).f2.f3), .int .i64 0, .int .i64 0, .int .i64 0]) ?_ 6 _ rfl; (with_reducible repeat (first | refine blk_drewN ?_ _ | refine blk_drew ?_ | refine blk_alloc ?_ _)); refine blk_put (cs := #[.int .i64 ((rd_T42 l0 (rd l1 x5_1)).f0), .int .i64 ((rd_T42 l0 (rd l1 x5_1)).f1), .int .i64 ((rd_T42 l0 (rd l1 x5_1)).f2.f0), .string ((rd_T42 l0 (rd l1 x5_1)).f2.f1), .int .i64 ((rd_T42 l0 (rd l1 x5_1)).f2.f2), .int .i64 0, .int .i64 0, .int .i64 0, .int .i64 0]) ?_ 5 _ rfl; (with_reducible repeat (first | refine blk_drewN ?_ _ | refine blk_drew ?_ | refine blk_alloc ?_ _)); refine blk_put (cs := #[.int .i64 ((rd_T42 l0 (rd l1 x5_1)).f0), .int .i64 ((rd_T42 l0 (rd l1 x5_1)).f1), .int .i64 ((rd_T42 l0 (rd l1 x5_1)).f2.f0), .string ((rd_T42 l0 (rd l1 x5_1)).f2.f1), .int .i64 0, .int .i64 0, .int .i64 0, .int .i64 0, .int .i64 0]) ?_ 4 _ rfl; (with_reducible repeat (first | refine blk_drewN ?_ _ | refine blk_drew ?_ | refine blk_alloc ?_ _)); refine blk_put (cs := #[.int .i64 ((rd_T42 l0 (rd l1 x5_1)).f0), .int .i64 ((rd_T42 l0 (rd l1 x5_1)).f1), .int .i64 ((rd_T42 l0 (rd l1 x5_1)).f2.f0), .string (⟨#[]⟩ : ByteArray), .int .i64 0, .int .i64 0, .int .i64 0, .int .i64 0, .int .i64 0]) ?_ 3 _ rfl; (with_reducible repeat (first | refine blk_drewN ?_ _ | refine blk_drew ?_ | refine blk_alloc ?_ _)); refine blk_put (cs := #[.int .i64 ((rd_T42 l0 (rd l1 x5_1)).f0), .int .i64 ((rd_T42 l0 (rd l1 x5_1)).f1), .int .i64 0, .string (⟨#[]⟩ : ByteArray), .int .i64 0, .int .i64 0, .int .i64 0, .int .i64 0, .int .i64 0]) ?_ 2 _ rfl; (with_reducible repeat (first | refine blk_drewN ?_ _ | refine blk_drew ?_ | refine blk_alloc ?_ _)); refine blk_put (cs := #[.int .i64 ((rd_T42 l0 (rd l1 x5_1)).f0), .int .i64 0, .int .i64 0, .string (⟨#[]⟩ : ByteArray), .int .i64 0, .int .i64 0, .int .i64 0, .int .i64 0, .int .i64 0]) ?_ 1 _ rfl; (with_reducible repeat (first | refine blk_drewN ?_ _ | refine blk_drew ?_ | refine blk_alloc ?_ _)); refine blk_put (cs := #[.int .i64 0, .int .i64 0, .int .i64 0, .string (⟨#[]⟩ : ByteArray), .int .i64 0, .int .i64 0, .int .i64 0, .int .i64 0, .int .i64 0]) ?_ 0 _ rfl; (with_reducible repeat (first | refine blk_drewN ?_ _ | refine blk_drew ?_ | refine blk_alloc ?_ _)); exact BK475.out) hb); have n1_ := an0 HB hb; clear BK475; clear HB; have BK475 := n0_; have HB := n1_; clear n0_ n1_; (try clear hb); (try clear hb2); (try clear hk); (try clear hi)))
                  repeat (go_quiet (first | ((with_reducible refine gate_dst (N := 6) rfl ?_); refine bxe (N := 6) (cs := #[.int .i64 0, .int .i64 0, .int .i64 0, .string (⟨#[]⟩ : ByteArray), .int .i64 0, .int .i64 0, .int .i64 0, .int .i64 0, .int .i64 0]) (t := 42) ?_; intro gb475 hg w21 hbox hb; have BK475 := Aside0.mk (hbox); have GW475 := an2 HB hg; have GE475 := an2 HB hg; replace HB := an0 HB hb; clear hb hbox hg; obtain ⟨hcz22_0, hcz22_1, hcz22_2, hcz22_3, hcz22_4, hcz22_5, hcz22_6, hcz22_7, hcz22_8, hfz22_0, hfz22_1, hfz22_2, hfz22_3, hfz22_4, hfz22_5, hfz22_6, hfz22_7, hfz22_8⟩ := cl9 BK475) | (go_at_call 82; (with_reducible refine (spec_ResultValid.calls k1 ((rd_T42 l0 (rd l1 x5_1)).f0) ((rd_T42 l0 (rd l1 x5_1)).f1) ((rd_T42 l0 (rd l1 x5_1)).f2.f0) ((rd_T42 l0 (rd l1 x5_1)).f2.f1) ((rd_T42 l0 (rd l1 x5_1)).f2.f2) ((rd_T42 l0 (rd l1 x5_1)).f2.f3) ((rd_T42 l0 (rd l1 x5_1)).f3) ((rd_T42 l0 (rd l1 x5_1)).f4) ((rd_T42 l0 (rd l1 x5_1)).f5) false _ A9.out).mono ?_); rintro e w23 ⟨rfl, hb⟩; have n0_ := Aside0.mk (blk_below (g := gb475) (o := .cells #[.int .i64 ((rd_T42 l0 (rd l1 x5_1)).f0), .int .i64 ((rd_T42 l0 (rd l1 x5_1)).f1), .int .i64 ((rd_T42 l0 (rd l1 x5_1)).f2.f0), .string ((rd_T42 l0 (rd l1 x5_1)).f2.f1), .int .i64 ((rd_T42 l0 (rd l1 x5_1)).f2.f2), .int .i64 ((rd_T42 l0 (rd l1 x5_1)).f2.f3), .int .i64 ((rd_T42 l0 (rd l1 x5_1)).f3), .int .i64 ((rd_T42 l0 (rd l1 x5_1)).f4), .int .i64 ((rd_T42 l0 (rd l1 x5_1)).f5)] 42 (0, 0)) (by (with_reducible repeat (first | refine blk_drewN ?_ _ | refine blk_drew ?_ | refine blk_alloc ?_ _)); refine blk_put (cs := #[.int .i64 ((rd_T42 l0 (rd l1 x5_1)).f0), .int .i64 ((rd_T42 l0 (rd l1 x5_1)).f1), .int .i64 ((rd_T42 l0 (rd l1 x5_1)).f2.f0), .string ((rd_T42 l0 (rd l1 x5_1)).f2.f1), .int .i64 ((rd_T42 l0 (rd l1 x5_1)).f2.f2), .int .i64 ((rd_T42 l0 (rd l1 x5_1)).f2.f3), .int .i64 ((rd_T42 l0 (rd l1 x5_1)).f3), .int .i64 ((rd_T42 l0 (rd l1 x5_1)).f4), .int .i64 0]) ?_ 8 _ rfl; (with_reducible repeat (first | refine blk_drewN ?_ _ | refine blk_drew ?_ | refine blk_alloc ?_ _)); refine blk_put (cs := #[.int .i64 ((rd_T42 l0 (rd l1 x5_1)).f0), .int .i64 ((rd_T42 l0 (rd l1 x5_1)).f1), .int .i64 ((rd_T42 l0 (rd l1 x5_1)).f2.f0), .string ((rd_T42 l0 (rd l1 x5_1)).f2.f1), .int .i64 ((rd_T42 l0 (rd l1 x5_1)).f2.f2), .int .i64 ((rd_T42 l0 (rd l1 x5_1)).f2.f3), .int .i64 ((rd_T42 l0 (rd l1 x5_1)).f3), .int .i64 0, .int .i64 0]) ?_ 7 _ rfl; (with_reducible repeat (first | refine blk_drewN ?_ _ | refine blk_drew ?_ | refine blk_alloc ?_ _)); refine blk_put (cs := #[.int .i64 ((rd_T42 l0 (rd l1 x5_1)).f0), .int .i64 ((rd_T42 l0 (rd l1 x5_1)).f1), .int .i64 ((rd_T42 l0 (rd l1 x5_1)).f2.f0), .string ((rd_T42 l0 (rd l1 x5_1)).f2.f1), .int .i64 ((rd_T42 l0 (rd l1 x5_1)).f2.f2), .int .i64 ((rd_T42 l0 (rd l1 x5_1)).f2.f3), .int .i64 0, .int .i64 0, .int .i64 0]) ?_ 6 _ rfl; (with_reducible repeat (first | refine blk_drewN ?_ _ | refine blk_drew ?_ | refine blk_alloc ?_ _)); refine blk_put (cs := #[.int .i64 ((rd_T42 l0 (rd l1 x5_1)).f0), .int .i64 ((rd_T42 l0 (rd l1 x5_1)).f1), .int .i64 ((rd_T42 l0 (rd l1 x5_1)).f2.f0), .string ((rd_T42 l0 (rd l1 x5_1)).f2.f1), .int .i64 ((rd_T42 l0 (rd l1 x5_1)).f2.f2), .int .i64 0, .int .i64 0, .int .i64 0, .int .i64 0]) ?_ 5 _ rfl; (with_reducible repeat (first | refine blk_drewN ?_ _ | refine blk_drew ?_ | refine blk_alloc ?_ _)); refine blk_put (cs := #[.int .i64 ((rd_T42 l0 (rd l1 x5_1)).f0), .int .i64 ((rd_T42 l0 (rd l1 x5_1)).f1), .int .i64 ((rd_T42 l0 (rd l1 x5_1)).f2.f0), .string ((rd_T42 l0 (rd l1 x5_1)).f2.f1), .int .i64 0, .int .i64 0, .int .i64 0, .int .i64 0, .int .i64 0]) ?_ 4 _ rfl; (with_reducible repeat (first | refine blk_drewN ?_ _ | refine blk_drew ?_ | refine blk_alloc ?_ _)); refine blk_put (cs := #[.int .i64 ((rd_T42 l0 (rd l1 x5_1)).f0), .int .i64 ((rd_T42 l0 (rd l1 x5_1)).f1), .int .i64 ((rd_T42 l0 (rd l1 x5_1)).f2.f0), .string (⟨#[]⟩ : ByteArray), .int .i64 0, .int .i64 0, .int .i64 0, .int .i64 0, .int .i64 0]) ?_ 3 _ rfl; (with_reducible repeat (first | refine blk_drewN ?_ _ | refine blk_drew ?_ | refine blk_alloc ?_ _)); refine blk_put (cs := #[.int .i64 ((rd_T42 l0 (rd l1 x5_1)).f0), .int .i64 ((rd_T42 l0 (rd l1 x5_1)).f1), .int .i64 0, .string (⟨#[]⟩ : ByteArray), .int .i64 0, .int .i64 0, .int .i64 0, .int .i64 0, .int .i64 0]) ?_ 2 _ rfl; (with_reducible repeat (first | refine blk_drewN ?_ _ | refine blk_drew ?_ | refine blk_alloc ?_ _)); refine blk_put (cs := #[.int .i64 ((rd_T42 l0 (rd l1 x5_1)).f0), .int .i64 0, .int .i64 0, .string (⟨#[]⟩ : ByteArray), .int .i64 0, .int .i64 0, .int .i64 0, .int .i64 0, .int .i64 0]) ?_ 1 _ rfl; (with_reducible repeat (first | refine blk_drewN ?_ _ | refine blk_drew ?_ | refine blk_alloc ?_ _)); refine blk_put (cs := #[.int .i64 0, .int .i64 0, .int .i64 0, .string (⟨#[]⟩ : ByteArray), .int .i64 0, .int .i64 0, .int .i64 0, .int .i64 0, .int .i64 0]) ?_ 0 _ rfl; (with_reducible repeat (first | refine blk_drewN ?_ _ | refine blk_drew ?_ | refine blk_alloc ?_ _)); exact BK475.out) hb); have n1_ := an0 HB hb; clear BK475; clear HB; have BK475 := n0_; have HB := n1_; clear n0_ n1_; (try clear hb); (try clear hb2); (try clear hk); (try clear hi))); try go_wp2_with (first | ((with_reducible refine gate_dst (N := 6) rfl ?_); refine bxe (N := 6) (cs := #[.int .i64 0, .int .i64 0, .int .i64 0, .string (⟨#[]⟩ : ByteArray), .int .i64 0, .int .i64 0, .int .i64 0, .int .i64 0, .int .i64 0]) (t := 42) ?_; intro gb475 hg w21 hbox hb; have BK475 := Aside0.mk (hbox); have GW475 := an2 HB hg; have GE475 := an2 HB hg; replace HB := an0 HB hb; clear hb hbox hg; obtain ⟨hcz22_0, hcz22_1, hcz22_2, hcz22_3, hcz22_4, hcz22_5, hcz22_6, hcz22_7, hcz22_8, hfz22_0, hfz22_1, hfz22_2, hfz22_3, hfz22_4, hfz22_5, hfz22_6, hfz22_7, hfz22_8⟩ := cl9 BK475) | (go_at_call 82; (with_reducible refine (spec_ResultValid.calls k1 ((rd_T42 l0 (rd l1 x5_1)).f0) ((rd_T42 l0 (rd l1 x5_1)).f1) ((rd_T42 l0 (rd l1 x5_1)).f2.f0) ((rd_T42 l0 (rd l1 x5_1)).f2.f1) ((rd_T42 l0 (rd l1 x5_1)).f2.f2) ((rd_T42 l0 (rd l1 x5_1)).f2.f3) ((rd_T42 l0 (rd l1 x5_1)).f3) ((rd_T42 l0 (rd l1 x5_1)).f4) ((rd_T42 l0 (rd l1 x5_1)).f5) false _ A9.out).mono ?_); rintro e w23 ⟨rfl, hb⟩; have n0_ := Aside0.mk (blk_below (g := gb475) (o := .cells #[.int .i64 ((rd_T42 l0 (rd l1 x5_1)).f0), .int .i64 ((rd_T42 l0 (rd l1 x5_1)).f1), .int .i64 ((rd_T42 l0 (rd l1 x5_1)).f2.f0), .string ((rd_T42 l0 (rd l1 x5_1)).f2.f1), .int .i64 ((rd_T42 l0 (rd l1 x5_1)).f2.f2), .int .i64 ((rd_T42 l0 (rd l1 x5_1)).f2.f3), .int .i64 ((rd_T42 l0 (rd l1 x5_1)).f3), .int .i64 ((rd_T42 l0 (rd l1 x5_1)).f4), .int .i64 ((rd_T42 l0 (rd l1 x5_1)).f5)] 42 (0, 0)) (by (with_reducible repeat (first | refine blk_drewN ?_ _ | refine blk_drew ?_ | refine blk_alloc ?_ _)); refine blk_put (cs := #[.int .i64 ((rd_T42 l0 (rd l1 x5_1)).f0), .int .i64 ((rd_T42 l0 (rd l1 x5_1)).f1), .int .i64 ((rd_T42 l0 (rd l1 x5_1)).f2.f0), .string ((rd_T42 l0 (rd l1 x5_1)).f2.f1), .int .i64 ((rd_T42 l0 (rd l1 x5_1)).f2.f2), .int .i64 ((rd_T42 l0 (rd l1 x5_1)).f2.f3), .int .i64 ((rd_T42 l0 (rd l1 x5_1)).f3), .int .i64 ((rd_T42 l0 (rd l1 x5_1)).f4), .int .i64 0]) ?_ 8 _ rfl; (with_reducible repeat (first | refine blk_drewN ?_ _ | refine blk_drew ?_ | refine blk_alloc ?_ _)); refine blk_put (cs := #[.int .i64 ((rd_T42 l0 (rd l1 x5_1)).f0), .int .i64 ((rd_T42 l0 (rd l1 x5_1)).f1), .int .i64 ((rd_T42 l0 (rd l1 x5_1)).f2.f0), .string ((rd_T42 l0 (rd l1 x5_1)).f2.f1), .int .i64 ((rd_T42 l0 (rd l1 x5_1)).f2.f2), .int .i64 ((rd_T42 l0 (rd l1 x5_1)).f2.f3), .int .i64 ((rd_T42 l0 (rd l1 x5_1)).f3), .int .i64 0, .int .i64 0]) ?_ 7 _ rfl; (with_reducible repeat (first | refine blk_drewN ?_ _ | refine blk_drew ?_ | refine blk_alloc ?_ _)); refine blk_put (cs := #[.int .i64 ((rd_T42 l0 (rd l1 x5_1)).f0), .int .i64 ((rd_T42 l0 (rd l1 x5_1)).f1), .int .i64 ((rd_T42 l0 (rd l1 x5_1)).f2.f0), .string ((rd_T42 l0 (rd l1 x5_1)).f2.f1), .int .i64 ((rd_T42 l0 (rd l1 x5_1)).f2.f2), .int .i64 ((rd_T42 l0 (rd l1 x5_1)).f2.f3), .int .i64 0, .int .i64 0, .int .i64 0]) ?_ 6 _ rfl; (with_reducible repeat (first | refine blk_drewN ?_ _ | refine blk_drew ?_ | refine blk_alloc ?_ _)); refine blk_put (cs := #[.int .i64 ((rd_T42 l0 (rd l1 x5_1)).f0), .int .i64 ((rd_T42 l0 (rd l1 x5_1)).f1), .int .i64 ((rd_T42 l0 (rd l1 x5_1)).f2.f0), .string ((rd_T42 l0 (rd l1 x5_1)).f2.f1), .int .i64 ((rd_T42 l0 (rd l1 x5_1)).f2.f2), .int .i64 0, .int .i64 0, .int .i64 0, .int .i64 0]) ?_ 5 _ rfl; (with_reducible repeat (first | refine blk_drewN ?_ _ | refine blk_drew ?_ | refine blk_alloc ?_ _)); refine blk_put (cs := #[.int .i64 ((rd_T42 l0 (rd l1 x5_1)).f0), .int .i64 ((rd_T42 l0 (rd l1 x5_1)).f1), .int .i64 ((rd_T42 l0 (rd l1 x5_1)).f2.f0), .string ((rd_T42 l0 (rd l1 x5_1)).f2.f1), .int .i64 0, .int .i64 0, .int .i64 0, .int .i64 0, .int .i64 0]) ?_ 4 _ rfl; (with_reducible repeat (first | refine blk_drewN ?_ _ | refine blk_drew ?_ | refine blk_alloc ?_ _)); refine blk_put (cs := #[.int .i64 ((rd_T42 l0 (rd l1 x5_1)).f0), .int .i64 ((rd_T42 l0 (rd l1 x5_1)).f1), .int .i64 ((rd_T42 l0 (rd l1 x5_1)).f2.f0), .string (⟨#[]⟩ : ByteArray), .int .i64 0, .int .i64 0, .int .i64 0, .int .i64 0, .int .i64 0]) ?_ 3 _ rfl; (with_reducible repeat (first | refine blk_drewN ?_ _ | refine blk_drew ?_ | refine blk_alloc ?_ _)); refine blk_put (cs := #[.int .i64 ((rd_T42 l0 (rd l1 x5_1)).f0), .int .i64 ((rd_T42 l0 (rd l1 x5_1)).f1), .int .i64 0, .string (⟨#[]⟩ : ByteArray), .int .i64 0, .int .i64 0, .int .i64 0, .int .i64 0, .int .i64 0]) ?_ 2 _ rfl; (with_reducible repeat (first | refine blk_drewN ?_ _ | refine blk_drew ?_ | refine blk_alloc ?_ _)); refine blk_put (cs := #[.int .i64 ((rd_T42 l0 (rd l1 x5_1)).f0), .int .i64 0, .int .i64 0, .string (⟨#[]⟩ : ByteArray), .int .i64 0, .int .i64 0, .int .i64 0, .int .i64 0, .int .i64 0]) ?_ 1 _ rfl; (with_reducible repeat (first | refine blk_drewN ?_ _ | refine blk_drew ?_ | refine blk_alloc ?_ _)); refine blk_put (cs := #[.int .i64 0, .int .i64 0, .int .i64 0, .string (⟨#[]⟩ : ByteArray), .int .i64 0, .int .i64 0, .int .i64 0, .int .i64 0, .int .i64 0]) ?_ 0 _ rfl; (with_reducible repeat (first | refine blk_drewN ?_ _ | refine blk_drew ?_ | refine blk_alloc ?_ _)); exact BK475.out) hb); have n1_ := an0 HB hb; clear BK475; clear HB; have BK475 := n0_; have HB := n1_; clear n0_ n1_; (try clear hb); (try clear hb2); (try clear hk); (try clear hi))))
                  go_ret
                  exact ⟨fe, bp HB.out⟩
              · rw [if_neg c8] at H
                exact absurd H (by simp)
            · rw [if_neg c7] at H
              exact absurd H (by simp)
          · rw [if_neg c6] at H
            exact absurd H (by simp)
        · rw [if_neg c5] at H
          have c5b0 : decide (x5_1 < (l1.length : Int)) = false := decide_eq_false c5
          clear c5
          obtain rfl := Option.some.inj H
          go_wp2
          repeat (go_quiet (fail); try go_wp2)
          go_ret
          exact ⟨fe, bp HB.out⟩
  · replace c4 := Bool.eq_false_iff.mpr c4
    subst c4
    have H1 : (some false) = some r := by rw [if_neg (show ¬ (false = true) by decide)] at H; exact H
    clear H
    have H := H1
    clear H1
    obtain rfl := Option.some.inj H
    go_enter Try.func22, Try.ntmps22
    go_wp2_with (first | (go_at_call 81; (with_reducible refine (spec_OrderValid.calls k (l0.length : Int) _ _ l1 false _ ?side1 ?side2 A3.out).mono ?_); (case side1 => exact cc HR1.out); (case side2 => exact HC1.out); rintro e w' ⟨rfl, ⟨nd, rfl⟩⟩; (try first | exact ⟨rfl, _, World.drewN_drewN _ _ _⟩ | exact ⟨rfl, _, Eq.trans (World.drewN_drewN _ _ _) (congrArg (World.drewN _) (Nat.add_assoc _ _ _))⟩)))
    repeat (go_quiet (first | (go_at_call 81; (with_reducible refine (spec_OrderValid.calls k (l0.length : Int) _ _ l1 false _ ?side1 ?side2 A3.out).mono ?_); (case side1 => exact cc HR1.out); (case side2 => exact HC1.out); rintro e w' ⟨rfl, ⟨nd, rfl⟩⟩; (try first | exact ⟨rfl, _, World.drewN_drewN _ _ _⟩ | exact ⟨rfl, _, Eq.trans (World.drewN_drewN _ _ _) (congrArg (World.drewN _) (Nat.add_assoc _ _ _))⟩))); try go_wp2_with (first | (go_at_call 81; (with_reducible refine (spec_OrderValid.calls k (l0.length : Int) _ _ l1 false _ ?side1 ?side2 A3.out).mono ?_); (case side1 => exact cc HR1.out); (case side2 => exact HC1.out); rintro e w' ⟨rfl, ⟨nd, rfl⟩⟩; (try first | exact ⟨rfl, _, World.drewN_drewN _ _ _⟩ | exact ⟨rfl, _, Eq.trans (World.drewN_drewN _ _ _) (congrArg (World.drewN _) (Nat.add_assoc _ _ _))⟩))))
    go_ret
    exact ⟨fe, bp HB.out⟩

end Go.Proofs.Ytfeeifefmenlmaa.PFnRealTime
