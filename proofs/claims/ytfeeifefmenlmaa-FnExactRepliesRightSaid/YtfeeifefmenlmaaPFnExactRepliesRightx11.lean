-- Written by a program of this session, in the manner of the kit's print (wip/pp.py): functions and their contracts.
import Derived.Test.YtfeeifefmenlmaaPFnExactRepliesRightx0
import Derived.Test.YtfeeifefmenlmaaPFnExactRepliesRightx1
import Derived.Test.YtfeeifefmenlmaaPFnExactRepliesRightx5
import Derived.Test.YtfeeifefmenlmaaPFnExactRepliesRightx10
namespace Go.Proofs.Ytfeeifefmenlmaa.PFnExactRepliesRight
open Go.RowKit Go.Proofs.YtfeeifefmenlmaaW.PrintWords Go.Proofs.YtfeeifefmenlmaaW.PrintLast Go.Proofs.YtfeeifefmenlmaaW.PrintMore
attribute [local go_sem] binOp_leq_str binOp_gtr_str binOp_geq_str max2_int min2_int max_two min_two max_three min_three max_four min_four   -- for this text's walks alone
set_option linter.unusedVariables false
set_option linter.unusedSimpArgs false

/-! ### laws_FnExactRepliesRight: function 13 -/
def laws_FnExactRepliesRight.f (k : Nat) (l0 : List (S135)) (l1 : List Int) : Option (Bool) := if (l1.length : Int) > 1048576 then (some true) else ((laws_szResultS.f k l0 1048576).bind fun t422 => (if t422 < 0 then (some true) else ((laws_toResultS.f k l0).bind fun t423 => ((laws_toIntS.f k l1).bind fun t426 => ((spec_RepliesRight.f k t423 t426).bind fun t429 => ((laws_toResultS.f k l0).bind fun t430 => ((laws_toIntS.f k l1).bind fun t433 => ((impl_RepliesRight.f k t430 t433).bind fun t436 => (if (t436 != t429) = true then (some false) else ((laws_toResultS.f k l0).bind fun t437 => ((laws_eqResultS.f k t430 t437).bind fun t440 => (if t440 = true then ((laws_toIntS.f k l1).bind fun t441 => ((laws_eqIntS.f k t433 t441).bind fun t444 => (if t444 = true then (some true) else (some false)))) else (some false)))))))))))))
theorem laws_FnExactRepliesRight.mono : ∀ a0 a1 k, LeO (laws_FnExactRepliesRight.f k a0 a1) (laws_FnExactRepliesRight.f (k + 1) a0 a1) := by
  intro a0 a1 k
  unfold laws_FnExactRepliesRight.f
  repeat' first
      | (with_reducible exact impl_RepliesRight.mono _ _ _)
      | (with_reducible exact laws_eqIntS.mono _ _ _)
      | (with_reducible exact laws_eqResultS.mono _ _ _)
      | (with_reducible exact laws_szResultS.mono _ _ _)
      | (with_reducible exact laws_toIntS.mono _ _)
      | (with_reducible exact laws_toResultS.mono _ _)
      | (with_reducible exact spec_RepliesRight.mono _ _ _)
      | (with_reducible exact LeO.refl _)
      | (with_reducible exact LeO.none _)
      | (with_reducible refine LeO.ite ?_ ?_)
      | (with_reducible refine LeO.bind ?_ (fun _ => ?_))
      | exact impl_RepliesRight.mono _ _ _
      | exact laws_eqIntS.mono _ _ _
      | exact laws_eqResultS.mono _ _ _
      | exact laws_szResultS.mono _ _ _
      | exact laws_toIntS.mono _ _
      | exact laws_toResultS.mono _ _
      | exact spec_RepliesRight.mono _ _ _
      | exact LeO.none _
      | refine LeO.ite ?_ ?_
      | refine LeO.bind ?_ (fun _ => ?_)
theorem laws_FnExactRepliesRight.s0 {P0 Q : Prop} (B0 : P0) (h : P0 → Q := by (intro b0_; repeat (first | exact (Kd.R_reads' b0_).2.2 | (with_reducible refine Kd.C_alloc ?_ _) | (with_reducible refine Kd.C_drewN ?_ _) | (with_reducible refine Kd.C_drew ?_)))) : Q := h B0
set_option maxHeartbeats 8000000 in
set_option maxRecDepth 100000 in
theorem laws_FnExactRepliesRight.calls (k : Nat) (A0 : Option Addr) (c0 : Nat) (l0 : List (S135)) (A1 : Option Addr) (c1 : Nat) (l1 : List Int) (r : Bool) (w : World) (hr0 : Kd.C k135 w A0 l0.length l0) (hc0 : l0.length ≤ c0) (hr1 : Kd.C (Kd.int .i64) w A1 l1.length l1) (hc1 : l1.length ≤ c1) (h : laws_FnExactRepliesRight.f k l0 l1 = some r) (hrt : Aside0 (r = true)) :
    Calls Try.prog 13 #[.slice A0 l0.length c0, .slice A1 l1.length c1] w fun e w' => e = .returned (.bool r) ∧ Below w.heap.size w w' := by
  have HR0 := Aside0.mk hr0
  have HC0 := Aside0.mk hc0
  clear hr0 hc0
  have HR1 := Aside0.mk hr1
  have HC1 := Aside0.mk hc1
  clear hr1 hc1
  have HB := Aside0.mk (Below.refl w.heap.size w)
  have H : (if (l1.length : Int) > 1048576 then (some true) else ((laws_szResultS.f k l0 1048576).bind fun t422 => (if t422 < 0 then (some true) else ((laws_toResultS.f k l0).bind fun t423 => ((laws_toIntS.f k l1).bind fun t426 => ((spec_RepliesRight.f k t423 t426).bind fun t429 => ((laws_toResultS.f k l0).bind fun t430 => ((laws_toIntS.f k l1).bind fun t433 => ((impl_RepliesRight.f k t430 t433).bind fun t436 => (if (t436 != t429) = true then (some false) else ((laws_toResultS.f k l0).bind fun t437 => ((laws_eqResultS.f k t430 t437).bind fun t440 => (if t440 = true then ((laws_toIntS.f k l1).bind fun t441 => ((laws_eqIntS.f k t433 t441).bind fun t444 => (if t444 = true then (some true) else (some false)))) else (some false)))))))))))))) = some r := h
  clear h
  by_cases c3 : (l1.length : Int) > 1048576
  · rw [if_pos c3] at H
    have c3b0 : decide (1048576 < (l1.length : Int)) = true := decide_eq_true c3
    have c3b1 : decide (1048576 < l1.length) = true := decide_eq_true (by omega)
    clear c3
    obtain rfl := Option.some.inj H
    go_enter Try.func13, Try.ntmps13
    go_wp2
    go_ret
    exact ⟨fe, bp HB.out⟩
  · rw [if_neg c3] at H
    have c3b0 : decide (1048576 < (l1.length : Int)) = false := decide_eq_false c3
    have c3b1 : decide (1048576 < l1.length) = false := decide_eq_false (by omega)
    clear c3
    replace H := Option.bind_eq_some_iff.mp H
    obtain ⟨t422, A40, H⟩ := H
    replace H : (if t422 < 0 then (some true) else ((laws_toResultS.f k l0).bind fun t423 => ((laws_toIntS.f k l1).bind fun t426 => ((spec_RepliesRight.f k t423 t426).bind fun t429 => ((laws_toResultS.f k l0).bind fun t430 => ((laws_toIntS.f k l1).bind fun t433 => ((impl_RepliesRight.f k t430 t433).bind fun t436 => (if (t436 != t429) = true then (some false) else ((laws_toResultS.f k l0).bind fun t437 => ((laws_eqResultS.f k t430 t437).bind fun t440 => (if t440 = true then ((laws_toIntS.f k l1).bind fun t441 => ((laws_eqIntS.f k t433 t441).bind fun t444 => (if t444 = true then (some true) else (some false)))) else (some false)))))))))))) = some r := H
    have A4 := Aside0.mk A40
    clear A40
    by_cases c5 : t422 < 0
    · rw [if_pos c5] at H
      have c5b0 : decide (t422 < 0) = true := decide_eq_true c5
      clear c5
      obtain rfl := Option.some.inj H
      go_enter Try.func13, Try.ntmps13
      go_wp2_with (first | ((with_reducible refine gate_callee (f := 64) rfl ?_); refine gsl (some 15) rfl Try.func64 #[.slice A0 l0.length c0, .int .i64 1048576] rfl ?_; (with_reducible refine (laws_szResultS.calls k _ _ l0 1048576 t422 _ ?side1 ?side2 A4.out).mono ?_); (case side1 => exact cc HR0.out); (case side2 => exact HC0.out); rintro e w6 ⟨rfl, hb⟩; refine ⟨_, rfl, ?_⟩; replace HB := an0 HB hb; (try clear hb); (try clear hb2); (try clear hk); (try clear hi)))
      go_ret
      exact ⟨fe, bp HB.out⟩
    · rw [if_neg c5] at H
      have c5b0 : decide (t422 < 0) = false := decide_eq_false c5
      clear c5
      replace H := Option.bind_eq_some_iff.mp H
      obtain ⟨t423, A70, H⟩ := H
      replace H : ((laws_toIntS.f k l1).bind fun t426 => ((spec_RepliesRight.f k t423 t426).bind fun t429 => ((laws_toResultS.f k l0).bind fun t430 => ((laws_toIntS.f k l1).bind fun t433 => ((impl_RepliesRight.f k t430 t433).bind fun t436 => (if (t436 != t429) = true then (some false) else ((laws_toResultS.f k l0).bind fun t437 => ((laws_eqResultS.f k t430 t437).bind fun t440 => (if t440 = true then ((laws_toIntS.f k l1).bind fun t441 => ((laws_eqIntS.f k t433 t441).bind fun t444 => (if t444 = true then (some true) else (some false)))) else (some false)))))))))) = some r := H
      have A7 := Aside0.mk A70
      clear A70
      replace H := Option.bind_eq_some_iff.mp H
      obtain ⟨t426, A80, H⟩ := H
      replace H : ((spec_RepliesRight.f k t423 t426).bind fun t429 => ((laws_toResultS.f k l0).bind fun t430 => ((laws_toIntS.f k l1).bind fun t433 => ((impl_RepliesRight.f k t430 t433).bind fun t436 => (if (t436 != t429) = true then (some false) else ((laws_toResultS.f k l0).bind fun t437 => ((laws_eqResultS.f k t430 t437).bind fun t440 => (if t440 = true then ((laws_toIntS.f k l1).bind fun t441 => ((laws_eqIntS.f k t433 t441).bind fun t444 => (if t444 = true then (some true) else (some false)))) else (some false))))))))) = some r := H
      have A8 := Aside0.mk A80
      clear A80
      replace H := Option.bind_eq_some_iff.mp H
      obtain ⟨t429, A90, H⟩ := H
      replace H : ((laws_toResultS.f k l0).bind fun t430 => ((laws_toIntS.f k l1).bind fun t433 => ((impl_RepliesRight.f k t430 t433).bind fun t436 => (if (t436 != t429) = true then (some false) else ((laws_toResultS.f k l0).bind fun t437 => ((laws_eqResultS.f k t430 t437).bind fun t440 => (if t440 = true then ((laws_toIntS.f k l1).bind fun t441 => ((laws_eqIntS.f k t433 t441).bind fun t444 => (if t444 = true then (some true) else (some false)))) else (some false)))))))) = some r := H
      have A9 := Aside0.mk A90
      clear A90
      replace H := Option.bind_eq_some_iff.mp H
      obtain ⟨t430, A100, H⟩ := H
      replace H : ((laws_toIntS.f k l1).bind fun t433 => ((impl_RepliesRight.f k t430 t433).bind fun t436 => (if (t436 != t429) = true then (some false) else ((laws_toResultS.f k l0).bind fun t437 => ((laws_eqResultS.f k t430 t437).bind fun t440 => (if t440 = true then ((laws_toIntS.f k l1).bind fun t441 => ((laws_eqIntS.f k t433 t441).bind fun t444 => (if t444 = true then (some true) else (some false)))) else (some false))))))) = some r := H
      have A10 := Aside0.mk A100
      clear A100
      replace H := Option.bind_eq_some_iff.mp H
      obtain ⟨t433, A110, H⟩ := H
      replace H : ((impl_RepliesRight.f k t430 t433).bind fun t436 => (if (t436 != t429) = true then (some false) else ((laws_toResultS.f k l0).bind fun t437 => ((laws_eqResultS.f k t430 t437).bind fun t440 => (if t440 = true then ((laws_toIntS.f k l1).bind fun t441 => ((laws_eqIntS.f k t433 t441).bind fun t444 => (if t444 = true then (some true) else (some false)))) else (some false)))))) = some r := H
      have A11 := Aside0.mk A110
      clear A110
      replace H := Option.bind_eq_some_iff.mp H
      obtain ⟨t436, A120, H⟩ := H
      replace H : (if (t436 != t429) = true then (some false) else ((laws_toResultS.f k l0).bind fun t437 => ((laws_eqResultS.f k t430 t437).bind fun t440 => (if t440 = true then ((laws_toIntS.f k l1).bind fun t441 => ((laws_eqIntS.f k t433 t441).bind fun t444 => (if t444 = true then (some true) else (some false)))) else (some false))))) = some r := H
      have A12 := Aside0.mk A120
      clear A120
      by_cases c13 : (t436 != t429) = true
      · rw [if_pos c13] at H
        have c13b0 : (t436 != t429) = true := c13
        (try (have c13b1 : decide (t436 = t429) = false := by simpa using c13))
        (try (have c13b2 : (t436 == t429) = false := by simpa using c13))
        (try (have c13b3 : ¬ (t436 = t429) := by simpa using c13))
        clear c13
        obtain rfl := Option.some.inj H
        exact absurd hrt.out (by simp)
      · rw [if_neg c13] at H
        have c13b0 : (t436 != t429) = false := by simpa using c13
        (try (have c13b1 : decide (t436 = t429) = true := by simpa using c13))
        (try (have c13b2 : (t436 == t429) = true := by simpa using c13))
        clear c13
        replace H := Option.bind_eq_some_iff.mp H
        obtain ⟨t437, A140, H⟩ := H
        replace H : ((laws_eqResultS.f k t430 t437).bind fun t440 => (if t440 = true then ((laws_toIntS.f k l1).bind fun t441 => ((laws_eqIntS.f k t433 t441).bind fun t444 => (if t444 = true then (some true) else (some false)))) else (some false))) = some r := H
        have A14 := Aside0.mk A140
        clear A140
        replace H := Option.bind_eq_some_iff.mp H
        obtain ⟨t440, A150, H⟩ := H
        replace H : (if t440 = true then ((laws_toIntS.f k l1).bind fun t441 => ((laws_eqIntS.f k t433 t441).bind fun t444 => (if t444 = true then (some true) else (some false)))) else (some false)) = some r := H
        have A15 := Aside0.mk A150
        clear A150
        by_cases c16 : t440 = true
        · subst c16
          have H1 : ((laws_toIntS.f k l1).bind fun t441 => ((laws_eqIntS.f k t433 t441).bind fun t444 => (if t444 = true then (some true) else (some false)))) = some r := by rw [if_pos rfl] at H; exact H
          clear H
          have H := H1
          clear H1
          replace H := Option.bind_eq_some_iff.mp H
          obtain ⟨t441, A170, H⟩ := H
          replace H : ((laws_eqIntS.f k t433 t441).bind fun t444 => (if t444 = true then (some true) else (some false))) = some r := H
          have A17 := Aside0.mk A170
          clear A170
          replace H := Option.bind_eq_some_iff.mp H
          obtain ⟨t444, A180, H⟩ := H
          replace H : (if t444 = true then (some true) else (some false)) = some r := H
          have A18 := Aside0.mk A180
          clear A180
          by_cases c19 : t444 = true
          · subst c19
            have H1 : (some true) = some r := by rw [if_pos rfl] at H; exact H
            clear H
            have H := H1
            clear H1
            obtain rfl := Option.some.inj H
            go_enter Try.func13, Try.ntmps13
            go_wp2_with (first | ((with_reducible refine gate_callee (f := 64) rfl ?_); refine gsl (some 15) rfl Try.func64 #[.slice A0 l0.length c0, .int .i64 1048576] rfl ?_; (with_reducible refine (laws_szResultS.calls k _ _ l0 1048576 t422 _ ?side1 ?side2 A4.out).mono ?_); (case side1 => exact cc HR0.out); (case side2 => exact HC0.out); rintro e w20 ⟨rfl, hb⟩; refine ⟨_, rfl, ?_⟩; replace HB := an0 HB hb; (try clear hb); (try clear hb2); (try clear hk); (try clear hi)) | ((with_reducible refine gate_callee (f := 66) rfl ?_); refine gsl (some 19) rfl Try.func66 #[.slice A0 l0.length c0] rfl ?_; (with_reducible refine (laws_toResultS.calls k _ _ l0 t423 _ ?side1 ?side2 A7.out).mono ?_); (case side1 => exact cc (Kd.C_below HR0.out HB.out)); (case side2 => exact HC0.out); rintro e w21 ⟨v424, rfl, ho0, hb⟩; refine ⟨_, rfl, ?_⟩; have n0_ := Aside0.mk (Kd.R_lower ho0 (below_size (bp HB.out))); have n1_ := an0 HB hb; clear HB; have HO425 := n0_; have HB := n1_; clear n0_ n1_; (try clear hb); (try clear hb2); (try clear hk); (try clear hi); (try clear ho0)) | ((with_reducible refine gate_callee (f := 67) rfl ?_); refine gsl (some 21) rfl Try.func67 #[.slice A1 l1.length c1] rfl ?_; (with_reducible refine (laws_toIntS.calls k _ _ l1 t426 _ ?side1 ?side2 A8.out).mono ?_); (case side1 => exact cc (Kd.C_below HR1.out HB.out)); (case side2 => exact HC1.out); rintro e w22 ⟨v427, rfl, ho0, hb⟩; refine ⟨_, rfl, ?_⟩; have n0_ := Aside0.mk (Kd.R_below (kr HO425.out) hb); have n1_ := Aside0.mk (Kd.R_lower ho0 (below_size (bp HB.out))); have n2_ := an0 HB hb; clear HO425; clear HB; have HO425 := n0_; have HO428 := n1_; have HB := n2_; clear n0_ n1_ n2_; (try clear hb); (try clear hb2); (try clear hk); (try clear hi); (try clear ho0); obtain ⟨Ao23, co23, eo23⟩ := Kd.R_slice HO425.out; subst eo23; obtain ⟨Ao24, co24, eo24⟩ := Kd.R_slice HO428.out; subst eo24) | ((with_reducible refine gate_callee (f := 65) rfl ?_); refine gsl (some 22) rfl Try.func65 #[.slice Ao23 t423.length co23, .slice Ao24 t426.length co24] rfl ?_; (with_reducible refine (spec_RepliesRight.calls k _ _ t423 _ _ t426 t429 _ ?side1 ?side2 ?side3 ?side4 A9.out).mono ?_); (case side1 => exact laws_FnExactRepliesRight.s0 HO425.out); (case side2 => exact (Kd.R_reads' HO425.out).2.1); (case side3 => exact laws_FnExactRepliesRight.s0 HO428.out); (case side4 => exact (Kd.R_reads' HO428.out).2.1); rintro e w25 ⟨rfl, hb⟩; refine ⟨_, rfl, ?_⟩; have n0_ := Aside0.mk (Kd.R_below (kr HO425.out) hb); have n1_ := Aside0.mk (Kd.R_below (kr HO428.out) hb); have n2_ := an0 HB hb; clear HO425; clear HO428; clear HB; have HO425 := n0_; have HO428 := n1_; have HB := n2_; clear n0_ n1_ n2_; (try clear hb); (try clear hb2); (try clear hk); (try clear hi)) | ((with_reducible refine gate_callee (f := 66) rfl ?_); refine gsl (some 24) rfl Try.func66 #[.slice A0 l0.length c0] rfl ?_; (with_reducible refine (laws_toResultS.calls k _ _ l0 t430 _ ?side1 ?side2 A10.out).mono ?_); (case side1 => exact cc (Kd.C_below HR0.out HB.out)); (case side2 => exact HC0.out); rintro e w26 ⟨v431, rfl, ho0, hb⟩; refine ⟨_, rfl, ?_⟩; have n0_ := Aside0.mk (Kd.R_elder' (kr HO425.out) (Kd.R_base ho0) hb); have n1_ := Aside0.mk (Kd.R_below (kr HO428.out) hb); have n2_ := Aside0.mk (Kd.R_lower (Kd.R_new' ho0 (Kd.R_lt (kr HO425.out))) (below_size (bp HB.out))); have n3_ := an0 HB hb; clear HO425; clear HO428; clear HB; have HO425 := n0_; have HO428 := n1_; have HO432 := n2_; have HB := n3_; clear n0_ n1_ n2_ n3_; (try clear hb); (try clear hb2); (try clear hk); (try clear hi); (try clear ho0)) | ((with_reducible refine gate_callee (f := 67) rfl ?_); refine gsl (some 26) rfl Try.func67 #[.slice A1 l1.length c1] rfl ?_; (with_reducible refine (laws_toIntS.calls k _ _ l1 t433 _ ?side1 ?side2 A11.out).mono ?_); (case side1 => exact cc (Kd.C_below HR1.out HB.out)); (case side2 => exact HC1.out); rintro e w27 ⟨v434, rfl, ho0, hb⟩; refine ⟨_, rfl, ?_⟩; have n0_ := Aside0.mk (Kd.R_below (kr HO425.out) hb); have n1_ := Aside0.mk (Kd.R_elder' (kr HO428.out) (Kd.R_base ho0) hb); have n2_ := Aside0.mk (Kd.R_below (kr HO432.out) hb); have n3_ := Aside0.mk (Kd.R_lower (Kd.R_new' ho0 (Kd.R_lt (kr HO428.out))) (below_size (bp HB.out))); have n4_ := an0 HB hb; clear HO425; clear HO428; clear HO432; clear HB; have HO425 := n0_; have HO428 := n1_; have HO432 := n2_; have HO435 := n3_; have HB := n4_; clear n0_ n1_ n2_ n3_ n4_; (try clear hb); (try clear hb2); (try clear hk); (try clear hi); (try clear ho0); obtain ⟨Ao28, co28, eo28⟩ := Kd.R_slice HO432.out; subst eo28; obtain ⟨Ao29, co29, eo29⟩ := Kd.R_slice HO435.out; subst eo29) | ((with_reducible refine gate_callee (f := 68) rfl ?_); refine gsl (some 29) rfl Try.func68 #[.slice Ao28 t430.length co28, .slice Ao29 t433.length co29] rfl ?_; (with_reducible refine (impl_RepliesRight.calls k _ _ t430 _ _ t433 t436 _ ?side1 ?side2 ?side3 ?side4 A12.out).mono ?_); (case side1 => exact laws_FnExactRepliesRight.s0 HO432.out); (case side2 => exact (Kd.R_reads' HO432.out).2.1); (case side3 => exact laws_FnExactRepliesRight.s0 HO435.out); (case side4 => exact (Kd.R_reads' HO435.out).2.1); rintro e w30 ⟨rfl, hb⟩; refine ⟨_, rfl, ?_⟩; have n0_ := Aside0.mk (Kd.R_below (kr HO425.out) hb); have n1_ := Aside0.mk (Kd.R_below (kr HO428.out) hb); have n2_ := Aside0.mk (Kd.R_below (kr HO432.out) hb); have n3_ := Aside0.mk (Kd.R_below (kr HO435.out) hb); have n4_ := an0 HB hb; clear HO425; clear HO428; clear HO432; clear HO435; clear HB; have HO425 := n0_; have HO428 := n1_; have HO432 := n2_; have HO435 := n3_; have HB := n4_; clear n0_ n1_ n2_ n3_ n4_; (try clear hb); (try clear hb2); (try clear hk); (try clear hi)) | ((with_reducible refine gate_callee (f := 66) rfl ?_); refine gsl (some 35) rfl Try.func66 #[.slice A0 l0.length c0] rfl ?_; (with_reducible refine (laws_toResultS.calls k _ _ l0 t437 _ ?side1 ?side2 A14.out).mono ?_); (case side1 => exact cc (Kd.C_below HR0.out HB.out)); (case side2 => exact HC0.out); rintro e w31 ⟨v438, rfl, ho0, hb⟩; refine ⟨_, rfl, ?_⟩; have n0_ := Aside0.mk (Kd.R_elder' (kr HO425.out) (Kd.R_base ho0) hb); have n1_ := Aside0.mk (Kd.R_below (kr HO428.out) hb); have n2_ := Aside0.mk (Kd.R_elder' (kr HO432.out) (Kd.R_base ho0) hb); have n3_ := Aside0.mk (Kd.R_below (kr HO435.out) hb); have n4_ := Aside0.mk (Kd.R_lower (Kd.R_new' (Kd.R_new' ho0 (Kd.R_lt (kr HO425.out))) (Kd.R_lt (kr HO432.out))) (below_size (bp HB.out))); have n5_ := an0 HB hb; clear HO425; clear HO428; clear HO432; clear HO435; clear HB; have HO425 := n0_; have HO428 := n1_; have HO432 := n2_; have HO435 := n3_; have HO439 := n4_; have HB := n5_; clear n0_ n1_ n2_ n3_ n4_ n5_; (try clear hb); (try clear hb2); (try clear hk); (try clear hi); (try clear ho0); obtain ⟨Ao32, co32, eo32⟩ := Kd.R_slice HO439.out; subst eo32) | ((with_reducible refine gate_callee (f := 69) rfl ?_); refine gsl (some 36) rfl Try.func69 #[.slice Ao28 t430.length co28, .slice Ao32 t437.length co32] rfl ?_; (with_reducible refine (laws_eqResultS.calls k _ _ t430 _ _ t437 true _ ?side1 ?side2 ?side3 ?side4 A15.out).mono ?_); (case side1 => exact laws_FnExactRepliesRight.s0 HO432.out); (case side2 => exact (Kd.R_reads' HO432.out).2.1); (case side3 => exact laws_FnExactRepliesRight.s0 HO439.out); (case side4 => exact (Kd.R_reads' HO439.out).2.1); rintro e w33 ⟨rfl, hb⟩; refine ⟨_, rfl, ?_⟩; have n0_ := Aside0.mk (Kd.R_below (kr HO425.out) hb); have n1_ := Aside0.mk (Kd.R_below (kr HO428.out) hb); have n2_ := Aside0.mk (Kd.R_below (kr HO432.out) hb); have n3_ := Aside0.mk (Kd.R_below (kr HO435.out) hb); have n4_ := Aside0.mk (Kd.R_below (kr HO439.out) hb); have n5_ := an0 HB hb; clear HO425; clear HO428; clear HO432; clear HO435; clear HO439; clear HB; have HO425 := n0_; have HO428 := n1_; have HO432 := n2_; have HO435 := n3_; have HO439 := n4_; have HB := n5_; clear n0_ n1_ n2_ n3_ n4_ n5_; (try clear hb); (try clear hb2); (try clear hk); (try clear hi)) | ((with_reducible refine gate_callee (f := 67) rfl ?_); refine gsl (some 40) rfl Try.func67 #[.slice A1 l1.length c1] rfl ?_; (with_reducible refine (laws_toIntS.calls k _ _ l1 t441 _ ?side1 ?side2 A17.out).mono ?_); (case side1 => exact cc (Kd.C_below HR1.out HB.out)); (case side2 => exact HC1.out); rintro e w34 ⟨v442, rfl, ho0, hb⟩; refine ⟨_, rfl, ?_⟩; have n0_ := Aside0.mk (Kd.R_below (kr HO425.out) hb); have n1_ := Aside0.mk (Kd.R_elder' (kr HO428.out) (Kd.R_base ho0) hb); have n2_ := Aside0.mk (Kd.R_below (kr HO432.out) hb); have n3_ := Aside0.mk (Kd.R_elder' (kr HO435.out) (Kd.R_base ho0) hb); have n4_ := Aside0.mk (Kd.R_below (kr HO439.out) hb); have n5_ := Aside0.mk (Kd.R_lower (Kd.R_new' (Kd.R_new' ho0 (Kd.R_lt (kr HO428.out))) (Kd.R_lt (kr HO435.out))) (below_size (bp HB.out))); have n6_ := an0 HB hb; clear HO425; clear HO428; clear HO432; clear HO435; clear HO439; clear HB; have HO425 := n0_; have HO428 := n1_; have HO432 := n2_; have HO435 := n3_; have HO439 := n4_; have HO443 := n5_; have HB := n6_; clear n0_ n1_ n2_ n3_ n4_ n5_ n6_; (try clear hb); (try clear hb2); (try clear hk); (try clear hi); (try clear ho0); obtain ⟨Ao35, co35, eo35⟩ := Kd.R_slice HO443.out; subst eo35) | ((with_reducible refine gate_callee (f := 43) rfl ?_); refine gsl (some 41) rfl Try.func43 #[.slice Ao29 t433.length co29, .slice Ao35 t441.length co35] rfl ?_; (with_reducible refine (laws_eqIntS.calls k _ _ t433 _ _ t441 true _ ?side1 ?side2 ?side3 ?side4 A18.out).mono ?_); (case side1 => exact laws_FnExactRepliesRight.s0 HO435.out); (case side2 => exact (Kd.R_reads' HO435.out).2.1); (case side3 => exact laws_FnExactRepliesRight.s0 HO443.out); (case side4 => exact (Kd.R_reads' HO443.out).2.1); rintro e w' ⟨rfl, ⟨nd, rfl⟩⟩; refine ⟨_, rfl, ?_⟩))
            go_ret
            exact ⟨fe, bp HB.out⟩
          · replace c19 := Bool.eq_false_iff.mpr c19
            subst c19
            have H1 : (some false) = some r := by rw [if_neg (show ¬ (false = true) by decide)] at H; exact H
            clear H
            have H := H1
            clear H1
            obtain rfl := Option.some.inj H
            exact absurd hrt.out (by simp)
        · replace c16 := Bool.eq_false_iff.mpr c16
          subst c16
          have H1 : (some false) = some r := by rw [if_neg (show ¬ (false = true) by decide)] at H; exact H
          clear H
          have H := H1
          clear H1
          obtain rfl := Option.some.inj H
          exact absurd hrt.out (by simp)

end Go.Proofs.Ytfeeifefmenlmaa.PFnExactRepliesRight
