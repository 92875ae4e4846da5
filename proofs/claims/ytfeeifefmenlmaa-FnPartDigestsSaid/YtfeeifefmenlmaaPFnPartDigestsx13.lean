-- Written by a program of this session, in the manner of the kit's print (wip/pp.py): functions and their contracts.
import Derived.Test.YtfeeifefmenlmaaPFnPartDigestsx0
import Derived.Test.YtfeeifefmenlmaaPFnPartDigestsx1
import Derived.Test.YtfeeifefmenlmaaPFnPartDigestsx2
import Derived.Test.YtfeeifefmenlmaaPFnPartDigestsx7
import Derived.Test.YtfeeifefmenlmaaPFnPartDigestsx9
import Derived.Test.YtfeeifefmenlmaaPFnPartDigestsx10
import Derived.Test.YtfeeifefmenlmaaPFnPartDigestsx11
import Derived.Test.YtfeeifefmenlmaaPFnPartDigestsx12
namespace Go.Proofs.Ytfeeifefmenlmaa.PFnPartDigests
open Go.RowKit Go.Proofs.YtfeeifefmenlmaaW.PrintWords Go.Proofs.YtfeeifefmenlmaaW.PrintLast Go.Proofs.YtfeeifefmenlmaaW.PrintMore
attribute [local go_sem] binOp_leq_str binOp_gtr_str binOp_geq_str max2_int min2_int max_two min_two max_three min_three max_four min_four   -- for this text's walks alone
set_option linter.unusedVariables false
set_option linter.unusedSimpArgs false

/-! ### laws_FnPartDigests: function 6 -/
def laws_FnPartDigests.l0 : Nat → List (S29) → List (S83) → List Int → Int → Int → Option (Bool)
  | 0, _, _, _, _, _ => none
  | k + 1, x3, x4, x5, x6, x7 => if x7 < (x5.length : Int) then (if 0 ≤ x7 then (laws_FnPartDigests.l0 k x3 x4 x5 (wrap64 (x6 + (rd x5 x7))) (wrap64 (x7 + 1))) else (none)) else (if (x5.length : Int) = (x4.length : Int) then ((impl_PairsDigest.f k x3).bind fun t479 => (some ((Int.tmod x6 99991) == t479))) else (some false))
def laws_FnPartDigests.f (k : Nat) (l0 : List Int) : Option (Bool) := if (l0.length : Int) > 1048576 then (some true) else ((spec_DrawPartDigests.f k l0).bind fun bt461 => ((impl_PartDigests.f k bt461.1 bt461.2).bind fun t467 => ((spec_PartDigests.f k bt461.1 bt461.2).bind fun t470 => ((laws_sameInts.f k t467 t470).bind fun t473 => (if t473 = true then (if (t467.length : Int) = 0 then ((impl_PairsValid.f k bt461.1).bind fun t474 => (if t474 = true then ((impl_PartitionValid.f k bt461.2).bind fun t475 => (if t475 = true then (some false) else ((laws_alive.f k).bind fun t476 => (some t476)))) else ((laws_alive.f k).bind fun t477 => (some t477)))) else (laws_FnPartDigests.l0 k bt461.1 bt461.2 t467 0 0)) else (some false))))))
theorem laws_FnPartDigests.mono_l : ∀ k, (∀ y0 y1 y2 y3 y4, LeO (laws_FnPartDigests.l0 k y0 y1 y2 y3 y4) (laws_FnPartDigests.l0 (k + 1) y0 y1 y2 y3 y4))
  | 0 => fun _ _ _ _ _ r h => by simp [laws_FnPartDigests.l0] at h
  | k + 1 => by
    have ih0 := laws_FnPartDigests.mono_l k
    · intro y0 y1 y2 y3 y4
      unfold laws_FnPartDigests.l0
      repeat' first
      | (with_reducible exact ih0 _ _ _ _ _)
      | (with_reducible exact impl_PairsDigest.mono _ _)
      | (with_reducible exact impl_PairsValid.mono _ _)
      | (with_reducible exact impl_PartDigests.mono _ _ _)
      | (with_reducible exact impl_PartitionValid.mono _ _)
      | (with_reducible exact laws_alive.mono _)
      | (with_reducible exact laws_sameInts.mono _ _ _)
      | (with_reducible exact spec_DrawPartDigests.mono _ _)
      | (with_reducible exact spec_PartDigests.mono _ _ _)
      | (with_reducible exact LeO.refl _)
      | (with_reducible exact LeO.none _)
      | (with_reducible refine LeO.ite ?_ ?_)
      | (with_reducible refine LeO.bind ?_ (fun _ => ?_))
      | exact ih0 _ _ _ _ _
      | exact impl_PairsDigest.mono _ _
      | exact impl_PairsValid.mono _ _
      | exact impl_PartDigests.mono _ _ _
      | exact impl_PartitionValid.mono _ _
      | exact laws_alive.mono _
      | exact laws_sameInts.mono _ _ _
      | exact spec_DrawPartDigests.mono _ _
      | exact spec_PartDigests.mono _ _ _
      | exact LeO.none _
      | refine LeO.ite ?_ ?_
      | refine LeO.bind ?_ (fun _ => ?_)
theorem laws_FnPartDigests.mono : ∀ a0 k, LeO (laws_FnPartDigests.f k a0) (laws_FnPartDigests.f (k + 1) a0) := by
  intro a0 k
  have ih0 := laws_FnPartDigests.mono_l k
  unfold laws_FnPartDigests.f
  repeat' first
      | (with_reducible exact ih0 _ _ _ _ _)
      | (with_reducible exact impl_PairsDigest.mono _ _)
      | (with_reducible exact impl_PairsValid.mono _ _)
      | (with_reducible exact impl_PartDigests.mono _ _ _)
      | (with_reducible exact impl_PartitionValid.mono _ _)
      | (with_reducible exact laws_alive.mono _)
      | (with_reducible exact laws_sameInts.mono _ _ _)
      | (with_reducible exact spec_DrawPartDigests.mono _ _)
      | (with_reducible exact spec_PartDigests.mono _ _ _)
      | (with_reducible exact LeO.refl _)
      | (with_reducible exact LeO.none _)
      | (with_reducible refine LeO.ite ?_ ?_)
      | (with_reducible refine LeO.bind ?_ (fun _ => ?_))
      | exact ih0 _ _ _ _ _
      | exact impl_PairsDigest.mono _ _
      | exact impl_PairsValid.mono _ _
      | exact impl_PartDigests.mono _ _ _
      | exact impl_PartitionValid.mono _ _
      | exact laws_alive.mono _
      | exact laws_sameInts.mono _ _ _
      | exact spec_DrawPartDigests.mono _ _
      | exact spec_PartDigests.mono _ _ _
      | exact LeO.none _
      | refine LeO.ite ?_ ?_
      | refine LeO.bind ?_ (fun _ => ?_)
theorem laws_FnPartDigests.s0 {P0 Q : Prop} (B0 : P0) (h : P0 → Q := by (intro b0_; repeat (first | exact (Kd.R_reads' b0_).2.2 | (with_reducible refine Kd.C_alloc ?_ _) | (with_reducible refine Kd.C_drewN ?_ _) | (with_reducible refine Kd.C_drew ?_)))) : Q := h B0
theorem laws_FnPartDigests.s1 {P0 Q : Prop} (B0 : P0) (h : P0 → Q := by (intro b0_; repeat (first | exact (Kd.Q_reads' b0_).2.2 | (with_reducible refine Kd.C_alloc ?_ _) | (with_reducible refine Kd.C_drewN ?_ _) | (with_reducible refine Kd.C_drew ?_)))) : Q := h B0
set_option maxHeartbeats 8000000 in
set_option maxRecDepth 100000 in
theorem laws_FnPartDigests.calls (k : Nat) (A0 : Option Addr) (c0 : Nat) (l0 : List Int) (r : Bool) (w : World) (hr0 : Kd.C (Kd.int .u8) w A0 l0.length l0) (hc0 : l0.length ≤ c0) (h : laws_FnPartDigests.f k l0 = some r) (hrt : Aside0 (r = true)) :
    Calls Try.prog 6 #[.slice A0 l0.length c0] w fun e w' => e = .returned (.bool r) ∧ Below w.heap.size w w' := by
  have HR0 := Aside0.mk hr0
  have HC0 := Aside0.mk hc0
  clear hr0 hc0
  have HB := Aside0.mk (Below.refl w.heap.size w)
  have H : (if (l0.length : Int) > 1048576 then (some true) else ((spec_DrawPartDigests.f k l0).bind fun bt461 => ((impl_PartDigests.f k bt461.1 bt461.2).bind fun t467 => ((spec_PartDigests.f k bt461.1 bt461.2).bind fun t470 => ((laws_sameInts.f k t467 t470).bind fun t473 => (if t473 = true then (if (t467.length : Int) = 0 then ((impl_PairsValid.f k bt461.1).bind fun t474 => (if t474 = true then ((impl_PartitionValid.f k bt461.2).bind fun t475 => (if t475 = true then (some false) else ((laws_alive.f k).bind fun t476 => (some t476)))) else ((laws_alive.f k).bind fun t477 => (some t477)))) else (laws_FnPartDigests.l0 k bt461.1 bt461.2 t467 0 0)) else (some false))))))) = some r := h
  clear h
  by_cases c2 : (l0.length : Int) > 1048576
  · rw [if_pos c2] at H
    have c2b0 : decide (1048576 < (l0.length : Int)) = true := decide_eq_true c2
    have c2b1 : decide (1048576 < l0.length) = true := decide_eq_true (by omega)
    clear c2
    obtain rfl := Option.some.inj H
    go_enter Try.func6, Try.ntmps6
    go_wp2
    go_ret
    exact ⟨fe, bp HB.out⟩
  · rw [if_neg c2] at H
    have c2b0 : decide (1048576 < (l0.length : Int)) = false := decide_eq_false c2
    have c2b1 : decide (1048576 < l0.length) = false := decide_eq_false (by omega)
    clear c2
    replace H := Option.bind_eq_some_iff.mp H
    obtain ⟨⟨t461, t462⟩, A30, H⟩ := H
    replace H : ((impl_PartDigests.f k t461 t462).bind fun t467 => ((spec_PartDigests.f k t461 t462).bind fun t470 => ((laws_sameInts.f k t467 t470).bind fun t473 => (if t473 = true then (if (t467.length : Int) = 0 then ((impl_PairsValid.f k t461).bind fun t474 => (if t474 = true then ((impl_PartitionValid.f k t462).bind fun t475 => (if t475 = true then (some false) else ((laws_alive.f k).bind fun t476 => (some t476)))) else ((laws_alive.f k).bind fun t477 => (some t477)))) else (laws_FnPartDigests.l0 k t461 t462 t467 0 0)) else (some false))))) = some r := H
    have A3 := Aside0.mk A30
    clear A30
    replace H := Option.bind_eq_some_iff.mp H
    obtain ⟨t467, A40, H⟩ := H
    replace H : ((spec_PartDigests.f k t461 t462).bind fun t470 => ((laws_sameInts.f k t467 t470).bind fun t473 => (if t473 = true then (if (t467.length : Int) = 0 then ((impl_PairsValid.f k t461).bind fun t474 => (if t474 = true then ((impl_PartitionValid.f k t462).bind fun t475 => (if t475 = true then (some false) else ((laws_alive.f k).bind fun t476 => (some t476)))) else ((laws_alive.f k).bind fun t477 => (some t477)))) else (laws_FnPartDigests.l0 k t461 t462 t467 0 0)) else (some false)))) = some r := H
    have A4 := Aside0.mk A40
    clear A40
    replace H := Option.bind_eq_some_iff.mp H
    obtain ⟨t470, A50, H⟩ := H
    replace H : ((laws_sameInts.f k t467 t470).bind fun t473 => (if t473 = true then (if (t467.length : Int) = 0 then ((impl_PairsValid.f k t461).bind fun t474 => (if t474 = true then ((impl_PartitionValid.f k t462).bind fun t475 => (if t475 = true then (some false) else ((laws_alive.f k).bind fun t476 => (some t476)))) else ((laws_alive.f k).bind fun t477 => (some t477)))) else (laws_FnPartDigests.l0 k t461 t462 t467 0 0)) else (some false))) = some r := H
    have A5 := Aside0.mk A50
    clear A50
    replace H := Option.bind_eq_some_iff.mp H
    obtain ⟨t473, A60, H⟩ := H
    replace H : (if t473 = true then (if (t467.length : Int) = 0 then ((impl_PairsValid.f k t461).bind fun t474 => (if t474 = true then ((impl_PartitionValid.f k t462).bind fun t475 => (if t475 = true then (some false) else ((laws_alive.f k).bind fun t476 => (some t476)))) else ((laws_alive.f k).bind fun t477 => (some t477)))) else (laws_FnPartDigests.l0 k t461 t462 t467 0 0)) else (some false)) = some r := H
    have A6 := Aside0.mk A60
    clear A60
    by_cases c7 : t473 = true
    · subst c7
      have H1 : (if (t467.length : Int) = 0 then ((impl_PairsValid.f k t461).bind fun t474 => (if t474 = true then ((impl_PartitionValid.f k t462).bind fun t475 => (if t475 = true then (some false) else ((laws_alive.f k).bind fun t476 => (some t476)))) else ((laws_alive.f k).bind fun t477 => (some t477)))) else (laws_FnPartDigests.l0 k t461 t462 t467 0 0)) = some r := by rw [if_pos rfl] at H; exact H
      clear H
      have H := H1
      clear H1
      by_cases c8 : (t467.length : Int) = 0
      · rw [if_pos c8] at H
        have c8b0 : ((t467.length : Int) == 0) = true := beq_iff_eq.mpr c8
        have c8b1 : ((t467.length : Int) != 0) = false := bne_eq_false_iff_eq.mpr c8
        clear c8
        replace H := Option.bind_eq_some_iff.mp H
        obtain ⟨t474, A90, H⟩ := H
        replace H : (if t474 = true then ((impl_PartitionValid.f k t462).bind fun t475 => (if t475 = true then (some false) else ((laws_alive.f k).bind fun t476 => (some t476)))) else ((laws_alive.f k).bind fun t477 => (some t477))) = some r := H
        have A9 := Aside0.mk A90
        clear A90
        by_cases c10 : t474 = true
        · subst c10
          have H1 : ((impl_PartitionValid.f k t462).bind fun t475 => (if t475 = true then (some false) else ((laws_alive.f k).bind fun t476 => (some t476)))) = some r := by rw [if_pos rfl] at H; exact H
          clear H
          have H := H1
          clear H1
          replace H := Option.bind_eq_some_iff.mp H
          obtain ⟨t475, A110, H⟩ := H
          replace H : (if t475 = true then (some false) else ((laws_alive.f k).bind fun t476 => (some t476))) = some r := H
          have A11 := Aside0.mk A110
          clear A110
          by_cases c12 : t475 = true
          · subst c12
            have H1 : (some false) = some r := by rw [if_pos rfl] at H; exact H
            clear H
            have H := H1
            clear H1
            obtain rfl := Option.some.inj H
            exact absurd hrt.out (by simp)
          · replace c12 := Bool.eq_false_iff.mpr c12
            subst c12
            have H1 : ((laws_alive.f k).bind fun t476 => (some t476)) = some r := by rw [if_neg (show ¬ (false = true) by decide)] at H; exact H
            clear H
            have H := H1
            clear H1
            replace H := Option.bind_eq_some_iff.mp H
            obtain ⟨t476, A130, H⟩ := H
            replace H : (some t476) = some r := H
            have A13 := Aside0.mk A130
            clear A130
            obtain rfl := Option.some.inj H
            go_enter Try.func6, Try.ntmps6
            go_wp2_with (first | ((with_reducible refine gate_callee (f := 36) rfl ?_); refine gsl (some 13) rfl Try.func36 #[.slice A0 l0.length c0] rfl ?_; (with_reducible refine (spec_DrawPartDigests.calls k _ _ l0 t461 t462 _ ?side1 ?side2 A3.out).mono ?_); (case side1 => exact cc HR0.out); (case side2 => exact HC0.out); rintro e w14 ⟨v463, v465, rfl, ho0, ho1, hb⟩; refine ⟨_, rfl, ?_⟩; have n0_ := Aside0.mk (Kd.R_lower ho0 (below_size (bp HB.out))); have n1_ := Aside0.mk (Kd.Q_lower ho1 (below_size (bp HB.out))); have n2_ := an0 HB hb; clear HB; have HO464 := n0_; have HO466 := n1_; have HB := n2_; clear n0_ n1_ n2_; (try clear hb); (try clear hb2); (try clear hk); (try clear hi); (try clear ho0); (try clear ho1); obtain ⟨Ao15, co15, eo15⟩ := Kd.R_slice HO464.out; subst eo15; obtain ⟨Ao16, co16, eo16, _⟩ := Kd.Q_slice HO466.out; subst eo16) | ((with_reducible refine gate_callee (f := 37) rfl ?_); refine gsl (some 18) rfl Try.func37 #[.slice Ao15 t461.length co15, .slice Ao16 t462.length co16] rfl ?_; (with_reducible refine (impl_PartDigests.calls k _ _ t461 _ _ t462 t467 _ ?side1 ?side2 ?side3 ?side4 A4.out).mono ?_); (case side1 => exact laws_FnPartDigests.s0 HO464.out); (case side2 => exact (Kd.R_reads' HO464.out).2.1); (case side3 => exact laws_FnPartDigests.s1 HO466.out); (case side4 => exact (Kd.Q_reads' HO466.out).2.1); rintro e w17 ⟨v468, rfl, ho0, hb⟩; refine ⟨_, rfl, ?_⟩; have n0_ := Aside0.mk (Kd.R_below (kr HO464.out) hb); have n1_ := Aside0.mk (Kd.Q_below (by (with_reducible repeat (first | apply Kd.Q_alloc | apply Kd.Q_drewN | apply Kd.Q_drew)); exact HO466.out) hb); have n2_ := Aside0.mk (Kd.R_lower ho0 (below_size (bp HB.out))); have n3_ := an0 HB hb; clear HO464; clear HO466; clear HB; have HO464 := n0_; have HO466 := n1_; have HO469 := n2_; have HB := n3_; clear n0_ n1_ n2_ n3_; (try clear hb); (try clear hb2); (try clear hk); (try clear hi); (try clear ho0)) | ((with_reducible refine gate_callee (f := 39) rfl ?_); refine gsl (some 22) rfl Try.func39 #[.slice Ao15 t461.length co15, .slice Ao16 t462.length co16] rfl ?_; (with_reducible refine (spec_PartDigests.calls k _ _ t461 _ _ t462 t470 _ ?side1 ?side2 ?side3 ?side4 A5.out).mono ?_); (case side1 => exact laws_FnPartDigests.s0 HO464.out); (case side2 => exact (Kd.R_reads' HO464.out).2.1); (case side3 => exact laws_FnPartDigests.s1 HO466.out); (case side4 => exact (Kd.Q_reads' HO466.out).2.1); rintro e w18 ⟨v471, rfl, ho0, hb⟩; refine ⟨_, rfl, ?_⟩; have n0_ := Aside0.mk (Kd.R_below (kr HO464.out) hb); have n1_ := Aside0.mk (Kd.Q_below (by (with_reducible repeat (first | apply Kd.Q_alloc | apply Kd.Q_drewN | apply Kd.Q_drew)); exact HO466.out) hb); have n2_ := Aside0.mk (Kd.R_elder' (kr HO469.out) (Kd.R_base ho0) hb); have n3_ := Aside0.mk (Kd.R_lower (Kd.R_new' ho0 (Kd.R_lt (kr HO469.out))) (below_size (bp HB.out))); have n4_ := an0 HB hb; clear HO464; clear HO466; clear HO469; clear HB; have HO464 := n0_; have HO466 := n1_; have HO469 := n2_; have HO472 := n3_; have HB := n4_; clear n0_ n1_ n2_ n3_ n4_; (try clear hb); (try clear hb2); (try clear hk); (try clear hi); (try clear ho0); obtain ⟨Ao19, co19, eo19⟩ := Kd.R_slice HO469.out; subst eo19; obtain ⟨Ao20, co20, eo20⟩ := Kd.R_slice HO472.out; subst eo20) | ((with_reducible refine gate_callee (f := 38) rfl ?_); refine gsl (some 23) rfl Try.func38 #[.slice Ao19 t467.length co19, .slice Ao20 t470.length co20] rfl ?_; (with_reducible refine (laws_sameInts.calls k _ _ t467 _ _ t470 true _ ?side1 ?side2 ?side3 ?side4 A6.out).mono ?_); (case side1 => exact laws_FnPartDigests.s0 HO469.out); (case side2 => exact (Kd.R_reads' HO469.out).2.1); (case side3 => exact laws_FnPartDigests.s0 HO472.out); (case side4 => exact (Kd.R_reads' HO472.out).2.1); rintro e w' ⟨rfl, ⟨nd, rfl⟩⟩; refine ⟨_, rfl, ?_⟩) | ((with_reducible refine gate_callee (f := 17) rfl ?_); refine gsl (some 29) rfl Try.func17 #[.slice Ao15 t461.length co15] rfl ?_; (with_reducible refine (impl_PairsValid.calls k _ _ t461 true _ ?side1 ?side2 A9.out).mono ?_); (case side1 => exact laws_FnPartDigests.s0 HO464.out); (case side2 => exact (Kd.R_reads' HO464.out).2.1); rintro e w21 ⟨rfl, hb⟩; refine ⟨_, rfl, ?_⟩; have n0_ := Aside0.mk (Kd.R_below (kr HO464.out) hb); have n1_ := Aside0.mk (Kd.Q_below (by (with_reducible repeat (first | apply Kd.Q_alloc | apply Kd.Q_drewN | apply Kd.Q_drew)); exact HO466.out) hb); have n2_ := Aside0.mk (Kd.R_below (kr HO469.out) hb); have n3_ := Aside0.mk (Kd.R_below (kr HO472.out) hb); have n4_ := an0 HB hb; clear HO464; clear HO466; clear HO469; clear HO472; clear HB; have HO464 := n0_; have HO466 := n1_; have HO469 := n2_; have HO472 := n3_; have HB := n4_; clear n0_ n1_ n2_ n3_ n4_; (try clear hb); (try clear hb2); (try clear hk); (try clear hi)) | (go_at_call 40; (with_reducible refine (impl_PartitionValid.calls k _ _ t462 false _ ?side1 ?side2 A11.out).mono ?_); (case side1 => exact laws_FnPartDigests.s1 HO466.out); (case side2 => exact (Kd.Q_reads' HO466.out).2.1); rintro e w22 ⟨rfl, hb⟩; have n0_ := Aside0.mk (Kd.R_below (kr HO464.out) hb); have n1_ := Aside0.mk (Kd.Q_below (by (with_reducible repeat (first | apply Kd.Q_alloc | apply Kd.Q_drewN | apply Kd.Q_drew)); exact HO466.out) hb); have n2_ := Aside0.mk (Kd.R_below (kr HO469.out) hb); have n3_ := Aside0.mk (Kd.R_below (kr HO472.out) hb); have n4_ := an0 HB hb; clear HO464; clear HO466; clear HO469; clear HO472; clear HB; have HO464 := n0_; have HO466 := n1_; have HO469 := n2_; have HO472 := n3_; have HB := n4_; clear n0_ n1_ n2_ n3_ n4_; (try clear hb); (try clear hb2); (try clear hk); (try clear hi)) | (go_at_call 18; (with_reducible refine (laws_alive.calls k  t476 _ A13.out).mono ?_); rintro e w23 ⟨rfl, hb⟩; have n0_ := Aside0.mk (Kd.R_below (kr HO464.out) hb); have n1_ := Aside0.mk (Kd.Q_below (by (with_reducible repeat (first | apply Kd.Q_alloc | apply Kd.Q_drewN | apply Kd.Q_drew)); exact HO466.out) hb); have n2_ := Aside0.mk (Kd.R_below (kr HO469.out) hb); have n3_ := Aside0.mk (Kd.R_below (kr HO472.out) hb); have n4_ := an0 HB hb; clear HO464; clear HO466; clear HO469; clear HO472; clear HB; have HO464 := n0_; have HO466 := n1_; have HO469 := n2_; have HO472 := n3_; have HB := n4_; clear n0_ n1_ n2_ n3_ n4_; (try clear hb); (try clear hb2); (try clear hk); (try clear hi)))
            go_ret
            exact ⟨fe, bp HB.out⟩
        · replace c10 := Bool.eq_false_iff.mpr c10
          subst c10
          have H1 : ((laws_alive.f k).bind fun t477 => (some t477)) = some r := by rw [if_neg (show ¬ (false = true) by decide)] at H; exact H
          clear H
          have H := H1
          clear H1
          replace H := Option.bind_eq_some_iff.mp H
          obtain ⟨t477, A240, H⟩ := H
          replace H : (some t477) = some r := H
          have A24 := Aside0.mk A240
          clear A240
          obtain rfl := Option.some.inj H
          go_enter Try.func6, Try.ntmps6
          go_wp2_with (first | ((with_reducible refine gate_callee (f := 36) rfl ?_); refine gsl (some 13) rfl Try.func36 #[.slice A0 l0.length c0] rfl ?_; (with_reducible refine (spec_DrawPartDigests.calls k _ _ l0 t461 t462 _ ?side1 ?side2 A3.out).mono ?_); (case side1 => exact cc HR0.out); (case side2 => exact HC0.out); rintro e w25 ⟨v463, v465, rfl, ho0, ho1, hb⟩; refine ⟨_, rfl, ?_⟩; have n0_ := Aside0.mk (Kd.R_lower ho0 (below_size (bp HB.out))); have n1_ := Aside0.mk (Kd.Q_lower ho1 (below_size (bp HB.out))); have n2_ := an0 HB hb; clear HB; have HO464 := n0_; have HO466 := n1_; have HB := n2_; clear n0_ n1_ n2_; (try clear hb); (try clear hb2); (try clear hk); (try clear hi); (try clear ho0); (try clear ho1); obtain ⟨Ao26, co26, eo26⟩ := Kd.R_slice HO464.out; subst eo26; obtain ⟨Ao27, co27, eo27, _⟩ := Kd.Q_slice HO466.out; subst eo27) | ((with_reducible refine gate_callee (f := 37) rfl ?_); refine gsl (some 18) rfl Try.func37 #[.slice Ao26 t461.length co26, .slice Ao27 t462.length co27] rfl ?_; (with_reducible refine (impl_PartDigests.calls k _ _ t461 _ _ t462 t467 _ ?side1 ?side2 ?side3 ?side4 A4.out).mono ?_); (case side1 => exact laws_FnPartDigests.s0 HO464.out); (case side2 => exact (Kd.R_reads' HO464.out).2.1); (case side3 => exact laws_FnPartDigests.s1 HO466.out); (case side4 => exact (Kd.Q_reads' HO466.out).2.1); rintro e w28 ⟨v468, rfl, ho0, hb⟩; refine ⟨_, rfl, ?_⟩; have n0_ := Aside0.mk (Kd.R_below (kr HO464.out) hb); have n1_ := Aside0.mk (Kd.Q_below (by (with_reducible repeat (first | apply Kd.Q_alloc | apply Kd.Q_drewN | apply Kd.Q_drew)); exact HO466.out) hb); have n2_ := Aside0.mk (Kd.R_lower ho0 (below_size (bp HB.out))); have n3_ := an0 HB hb; clear HO464; clear HO466; clear HB; have HO464 := n0_; have HO466 := n1_; have HO469 := n2_; have HB := n3_; clear n0_ n1_ n2_ n3_; (try clear hb); (try clear hb2); (try clear hk); (try clear hi); (try clear ho0)) | ((with_reducible refine gate_callee (f := 39) rfl ?_); refine gsl (some 22) rfl Try.func39 #[.slice Ao26 t461.length co26, .slice Ao27 t462.length co27] rfl ?_; (with_reducible refine (spec_PartDigests.calls k _ _ t461 _ _ t462 t470 _ ?side1 ?side2 ?side3 ?side4 A5.out).mono ?_); (case side1 => exact laws_FnPartDigests.s0 HO464.out); (case side2 => exact (Kd.R_reads' HO464.out).2.1); (case side3 => exact laws_FnPartDigests.s1 HO466.out); (case side4 => exact (Kd.Q_reads' HO466.out).2.1); rintro e w29 ⟨v471, rfl, ho0, hb⟩; refine ⟨_, rfl, ?_⟩; have n0_ := Aside0.mk (Kd.R_below (kr HO464.out) hb); have n1_ := Aside0.mk (Kd.Q_below (by (with_reducible repeat (first | apply Kd.Q_alloc | apply Kd.Q_drewN | apply Kd.Q_drew)); exact HO466.out) hb); have n2_ := Aside0.mk (Kd.R_elder' (kr HO469.out) (Kd.R_base ho0) hb); have n3_ := Aside0.mk (Kd.R_lower (Kd.R_new' ho0 (Kd.R_lt (kr HO469.out))) (below_size (bp HB.out))); have n4_ := an0 HB hb; clear HO464; clear HO466; clear HO469; clear HB; have HO464 := n0_; have HO466 := n1_; have HO469 := n2_; have HO472 := n3_; have HB := n4_; clear n0_ n1_ n2_ n3_ n4_; (try clear hb); (try clear hb2); (try clear hk); (try clear hi); (try clear ho0); obtain ⟨Ao30, co30, eo30⟩ := Kd.R_slice HO469.out; subst eo30; obtain ⟨Ao31, co31, eo31⟩ := Kd.R_slice HO472.out; subst eo31) | ((with_reducible refine gate_callee (f := 38) rfl ?_); refine gsl (some 23) rfl Try.func38 #[.slice Ao30 t467.length co30, .slice Ao31 t470.length co31] rfl ?_; (with_reducible refine (laws_sameInts.calls k _ _ t467 _ _ t470 true _ ?side1 ?side2 ?side3 ?side4 A6.out).mono ?_); (case side1 => exact laws_FnPartDigests.s0 HO469.out); (case side2 => exact (Kd.R_reads' HO469.out).2.1); (case side3 => exact laws_FnPartDigests.s0 HO472.out); (case side4 => exact (Kd.R_reads' HO472.out).2.1); rintro e w' ⟨rfl, ⟨nd, rfl⟩⟩; refine ⟨_, rfl, ?_⟩) | ((with_reducible refine gate_callee (f := 17) rfl ?_); refine gsl (some 29) rfl Try.func17 #[.slice Ao26 t461.length co26] rfl ?_; (with_reducible refine (impl_PairsValid.calls k _ _ t461 false _ ?side1 ?side2 A9.out).mono ?_); (case side1 => exact laws_FnPartDigests.s0 HO464.out); (case side2 => exact (Kd.R_reads' HO464.out).2.1); rintro e w32 ⟨rfl, hb⟩; refine ⟨_, rfl, ?_⟩; have n0_ := Aside0.mk (Kd.R_below (kr HO464.out) hb); have n1_ := Aside0.mk (Kd.Q_below (by (with_reducible repeat (first | apply Kd.Q_alloc | apply Kd.Q_drewN | apply Kd.Q_drew)); exact HO466.out) hb); have n2_ := Aside0.mk (Kd.R_below (kr HO469.out) hb); have n3_ := Aside0.mk (Kd.R_below (kr HO472.out) hb); have n4_ := an0 HB hb; clear HO464; clear HO466; clear HO469; clear HO472; clear HB; have HO464 := n0_; have HO466 := n1_; have HO469 := n2_; have HO472 := n3_; have HB := n4_; clear n0_ n1_ n2_ n3_ n4_; (try clear hb); (try clear hb2); (try clear hk); (try clear hi)) | (go_at_call 18; (with_reducible refine (laws_alive.calls k  t477 _ A24.out).mono ?_); rintro e w33 ⟨rfl, hb⟩; have n0_ := Aside0.mk (Kd.R_below (kr HO464.out) hb); have n1_ := Aside0.mk (Kd.Q_below (by (with_reducible repeat (first | apply Kd.Q_alloc | apply Kd.Q_drewN | apply Kd.Q_drew)); exact HO466.out) hb); have n2_ := Aside0.mk (Kd.R_below (kr HO469.out) hb); have n3_ := Aside0.mk (Kd.R_below (kr HO472.out) hb); have n4_ := an0 HB hb; clear HO464; clear HO466; clear HO469; clear HO472; clear HB; have HO464 := n0_; have HO466 := n1_; have HO469 := n2_; have HO472 := n3_; have HB := n4_; clear n0_ n1_ n2_ n3_ n4_; (try clear hb); (try clear hb2); (try clear hk); (try clear hi)))
          go_ret
          exact ⟨fe, bp HB.out⟩
      · rw [if_neg c8] at H
        have c8b0 : ((t467.length : Int) == 0) = false := beq_eq_false_iff_ne.mpr c8
        have c8b1 : ((t467.length : Int) != 0) = true := bne_iff_ne.mpr c8
        have c8b2 : ¬ (t467 = []) := fun h_ => c8 (by rw [h_]; rfl)
        have H' := Aside0.mk H
        clear H
        go_enter Try.func6, Try.ntmps6
        go_wp2_with (first | ((with_reducible refine gate_callee (f := 36) rfl ?_); refine gsl (some 13) rfl Try.func36 #[.slice A0 l0.length c0] rfl ?_; (with_reducible refine (spec_DrawPartDigests.calls k _ _ l0 t461 t462 _ ?side1 ?side2 A3.out).mono ?_); (case side1 => exact cc HR0.out); (case side2 => exact HC0.out); rintro e w34 ⟨v463, v465, rfl, ho0, ho1, hb⟩; refine ⟨_, rfl, ?_⟩; have n0_ := Aside0.mk (Kd.R_lower ho0 (below_size (bp HB.out))); have n1_ := Aside0.mk (Kd.Q_lower ho1 (below_size (bp HB.out))); have n2_ := an0 HB hb; clear HB; have HO464 := n0_; have HO466 := n1_; have HB := n2_; clear n0_ n1_ n2_; (try clear hb); (try clear hb2); (try clear hk); (try clear hi); (try clear ho0); (try clear ho1); obtain ⟨Ao35, co35, eo35⟩ := Kd.R_slice HO464.out; subst eo35; obtain ⟨Ao36, co36, eo36, _⟩ := Kd.Q_slice HO466.out; subst eo36) | ((with_reducible refine gate_callee (f := 37) rfl ?_); refine gsl (some 18) rfl Try.func37 #[.slice Ao35 t461.length co35, .slice Ao36 t462.length co36] rfl ?_; (with_reducible refine (impl_PartDigests.calls k _ _ t461 _ _ t462 t467 _ ?side1 ?side2 ?side3 ?side4 A4.out).mono ?_); (case side1 => exact laws_FnPartDigests.s0 HO464.out); (case side2 => exact (Kd.R_reads' HO464.out).2.1); (case side3 => exact laws_FnPartDigests.s1 HO466.out); (case side4 => exact (Kd.Q_reads' HO466.out).2.1); rintro e w37 ⟨v468, rfl, ho0, hb⟩; refine ⟨_, rfl, ?_⟩; have n0_ := Aside0.mk (Kd.R_below (kr HO464.out) hb); have n1_ := Aside0.mk (Kd.Q_below (by (with_reducible repeat (first | apply Kd.Q_alloc | apply Kd.Q_drewN | apply Kd.Q_drew)); exact HO466.out) hb); have n2_ := Aside0.mk (Kd.R_lower ho0 (below_size (bp HB.out))); have n3_ := an0 HB hb; clear HO464; clear HO466; clear HB; have HO464 := n0_; have HO466 := n1_; have HO469 := n2_; have HB := n3_; clear n0_ n1_ n2_ n3_; (try clear hb); (try clear hb2); (try clear hk); (try clear hi); (try clear ho0)) | ((with_reducible refine gate_callee (f := 39) rfl ?_); refine gsl (some 22) rfl Try.func39 #[.slice Ao35 t461.length co35, .slice Ao36 t462.length co36] rfl ?_; (with_reducible refine (spec_PartDigests.calls k _ _ t461 _ _ t462 t470 _ ?side1 ?side2 ?side3 ?side4 A5.out).mono ?_); (case side1 => exact laws_FnPartDigests.s0 HO464.out); (case side2 => exact (Kd.R_reads' HO464.out).2.1); (case side3 => exact laws_FnPartDigests.s1 HO466.out); (case side4 => exact (Kd.Q_reads' HO466.out).2.1); rintro e w38 ⟨v471, rfl, ho0, hb⟩; refine ⟨_, rfl, ?_⟩; have n0_ := Aside0.mk (Kd.R_below (kr HO464.out) hb); have n1_ := Aside0.mk (Kd.Q_below (by (with_reducible repeat (first | apply Kd.Q_alloc | apply Kd.Q_drewN | apply Kd.Q_drew)); exact HO466.out) hb); have n2_ := Aside0.mk (Kd.R_elder' (kr HO469.out) (Kd.R_base ho0) hb); have n3_ := Aside0.mk (Kd.R_lower (Kd.R_new' ho0 (Kd.R_lt (kr HO469.out))) (below_size (bp HB.out))); have n4_ := an0 HB hb; clear HO464; clear HO466; clear HO469; clear HB; have HO464 := n0_; have HO466 := n1_; have HO469 := n2_; have HO472 := n3_; have HB := n4_; clear n0_ n1_ n2_ n3_ n4_; (try clear hb); (try clear hb2); (try clear hk); (try clear hi); (try clear ho0); obtain ⟨Ao39, co39, eo39⟩ := Kd.R_slice HO469.out; subst eo39; obtain ⟨Ao40, co40, eo40⟩ := Kd.R_slice HO472.out; subst eo40) | ((with_reducible refine gate_callee (f := 38) rfl ?_); refine gsl (some 23) rfl Try.func38 #[.slice Ao39 t467.length co39, .slice Ao40 t470.length co40] rfl ?_; (with_reducible refine (laws_sameInts.calls k _ _ t467 _ _ t470 true _ ?side1 ?side2 ?side3 ?side4 A6.out).mono ?_); (case side1 => exact laws_FnPartDigests.s0 HO469.out); (case side2 => exact (Kd.R_reads' HO469.out).2.1); (case side3 => exact laws_FnPartDigests.s0 HO472.out); (case side4 => exact (Kd.R_reads' HO472.out).2.1); rintro e w' ⟨rfl, ⟨nd, rfl⟩⟩; refine ⟨_, rfl, ?_⟩))
        go_loopg [6, 7] k (fun kq v6 v7 w' => ∃ (x6_1 : Int) (x7_1 : Int), v6 = .int .i64 x6_1 ∧ v7 = .int .i64 x7_1 ∧ Aside0 (laws_FnPartDigests.l0 kq t461 t462 t467 x6_1 x7_1 = some r) ∧ Aside0 (kq ≤ k) ∧ Aside0 (Kd.R k29 29 w' w.heap.size (fun _ => True) (.slice Ao35 t461.length co35) t461) ∧ Aside0 (Kd.Q k83 83 w' w.heap.size (fun _ => True) (.slice Ao36 t462.length co36) t462) ∧ Aside0 (Kd.R (Kd.int .i64) 3 w' w.heap.size (fun _ => True) (.slice Ao39 t467.length co39) t467) ∧ Aside0 (Below w.heap.size w w'))
        case atStart => exact ⟨(0), (0), (by first | rfl | (simp; done) | (simp [*]; done) | (simp [bne_nil_, beq_nil_]; done)), (by first | rfl | (simp; done) | (simp [*]; done) | (simp [bne_nil_, beq_nil_]; done)), H', ⟨Nat.le_refl _⟩, ⟨by (with_reducible repeat (first | apply Kd.R_alloc | apply Kd.R_drewN | apply Kd.R_drew)); exact HO464.out⟩, ⟨by (with_reducible repeat (first | apply Kd.Q_alloc | apply Kd.Q_drewN | apply Kd.Q_drew)); exact HO466.out⟩, ⟨by (with_reducible repeat (first | apply Kd.R_alloc | apply Kd.R_drewN | apply Kd.R_drew)); exact Kd.R_mono HO469.out (fun _ hk => trivial)⟩, ⟨bp HB.out⟩⟩
        case round =>
          clear H'
          try clear c1
          try clear c2
          try clear c2b0
          try clear c2b1
          try clear p2
          try clear c3
          try clear c6
          try clear p6
          try clear c7
          try clear c8
          try clear c8b0
          try clear c8b1
          try clear c8b2
          try clear c10
          try clear c12
          try clear c17
          try clear c36
          try clear c37
          try clear c38
          try clear c39
          obtain ⟨x6_1, x7_1, rfl, rfl, HA, HK1, HO_3, HO_4, HO_5, HB⟩ := hrel
          cases gk with
          | zero => exact absurd HA.out (by simp [laws_FnPartDigests.l0])
          | succ k1 =>
            have H := HA.out
            clear HA
            simp only [laws_FnPartDigests.l0] at H
            by_cases c41 : x7_1 < (t467.length : Int)
            · rw [if_pos c41] at H
              have c41b0 : decide (x7_1 < (t467.length : Int)) = true := decide_eq_true c41
              clear c41
              by_cases c42 : 0 ≤ x7_1
              · rw [if_pos c42] at H
                have c42b0 : decide (0 ≤ x7_1) = true := decide_eq_true c42
                clear c42
                have H' := Aside0.mk H
                clear H
                have p478 : 0 ≤ (x7_1 : Int) := of_decide_eq_true (by first | (with_reducible assumption) | assumption)
                have q478 : x7_1 < (t467.length : Int) := of_decide_eq_true (by first | (with_reducible assumption) | assumption)
                obtain ⟨ad478, e478, hx478_0⟩ := Kd.at_int (Kd.R_reads' HO_5.out).2.2 x7_1 p478 q478
                cases e478
                replace p478 := eq_true p478
                replace q478 := eq_true q478
                go_wp2
                go_roundg k1
                case measure => have := HK1.out; omega
                case rel => exact ⟨(wrap64 (x6_1 + (rd t467 x7_1))), (wrap64 (x7_1 + 1)), (by first | rfl | (simp; done) | (simp [*]; done) | (simp [bne_nil_, beq_nil_]; done)), (by first | rfl | (simp; done) | (simp [*]; done) | (simp [bne_nil_, beq_nil_]; done)), H', ⟨by have := HK1.out; omega⟩, ⟨by (with_reducible repeat (first | apply Kd.R_alloc | apply Kd.R_drewN | apply Kd.R_drew)); exact HO_3.out⟩, ⟨by (with_reducible repeat (first | apply Kd.Q_alloc | apply Kd.Q_drewN | apply Kd.Q_drew)); exact HO_4.out⟩, ⟨by (with_reducible repeat (first | apply Kd.R_alloc | apply Kd.R_drewN | apply Kd.R_drew)); exact HO_5.out⟩, ⟨bp HB.out⟩⟩
              · rw [if_neg c42] at H
                exact absurd H (by simp)
            · rw [if_neg c41] at H
              have c41b0 : decide (x7_1 < (t467.length : Int)) = false := decide_eq_false c41
              clear c41
              by_cases c43 : (t467.length : Int) = (t462.length : Int)
              · rw [if_pos c43] at H
                have c43b0 : ((t467.length : Int) == (t462.length : Int)) = true := beq_iff_eq.mpr c43
                have c43b1 : ((t467.length : Int) != (t462.length : Int)) = false := bne_eq_false_iff_eq.mpr c43
                have c43b2 : (t467.length == t462.length) = true := by first | simpa using c43 | (simp at c43 ⊢; omega)
                clear c43
                replace H := Option.bind_eq_some_iff.mp H
                obtain ⟨t479, A440, H⟩ := H
                replace H : (some ((Int.tmod x6_1 99991) == t479)) = some r := H
                have A44 := Aside0.mk A440
                clear A440
                obtain rfl := Option.some.inj H
                go_wp2_with (first | (go_at_call 15; (with_reducible refine (impl_PairsDigest.calls k1 _ _ t461 t479 _ ?side1 ?side2 A44.out).mono ?_); (case side1 => exact laws_FnPartDigests.s0 HO_3.out); (case side2 => exact (Kd.R_reads' HO_3.out).2.1); rintro e w45 ⟨rfl, hb⟩; have n0_ := Aside0.mk (Kd.R_below (kr HO_3.out) hb); have n1_ := Aside0.mk (Kd.Q_below (by (with_reducible repeat (first | apply Kd.Q_alloc | apply Kd.Q_drewN | apply Kd.Q_drew)); exact HO_4.out) hb); have n2_ := Aside0.mk (Kd.R_below (kr HO_5.out) hb); have n3_ := an0 HB hb; clear HO_3; clear HO_4; clear HO_5; clear HB; have HO_3 := n0_; have HO_4 := n1_; have HO_5 := n2_; have HB := n3_; clear n0_ n1_ n2_ n3_; (try clear hb); (try clear hb2); (try clear hk); (try clear hi)))
                go_ret
                exact ⟨fe, bp HB.out⟩
              · rw [if_neg c43] at H
                have c43b0 : ((t467.length : Int) == (t462.length : Int)) = false := beq_eq_false_iff_ne.mpr c43
                have c43b1 : ((t467.length : Int) != (t462.length : Int)) = true := bne_iff_ne.mpr c43
                have c43b2 : (t467.length == t462.length) = false := by first | simpa using c43 | (simp at c43 ⊢; omega)
                obtain rfl := Option.some.inj H
                exact absurd hrt.out (by simp)
    · replace c7 := Bool.eq_false_iff.mpr c7
      subst c7
      have H1 : (some false) = some r := by rw [if_neg (show ¬ (false = true) by decide)] at H; exact H
      clear H
      have H := H1
      clear H1
      obtain rfl := Option.some.inj H
      exact absurd hrt.out (by simp)

/-- THE ONE PURE STATEMENT of laws_FnPartDigests: yours. -/
def laws_FnPartDigests.Pure : Prop := ∀ (l0 : List Int), l0.length ≤ maxLen → l0.length * 1 ≤ 140737488351232 → (∀ x ∈ l0, (Lit.int .u8 x).wf = true) → ∃ k, laws_FnPartDigests.f k l0 = some true
theorem laws_FnPartDigests.walk (P : laws_FnPartDigests.Pure) (a0 : Option Addr) (len0 cap0 : Nat) (z0 : List Int) (w : World) (w0 : (a0 = none ∧ len0 = 0 ∧ cap0 = 0 ∧ z0 = []) ∨ ∃ x, a0 = some x ∧ len0 ≤ cap0 ∧ cap0 ≤ maxLen ∧ z0.length = cap0 ∧ (∀ i, i < z0.length → w.cell? (x.add i) = some (.int .u8 (z0.getD i 0))) ∧ ∀ n ∈ z0, (Lit.int .u8 n).wf = true) (y0 : len0 * 1 ≤ 140737488351232) :
    Calls Try.prog 6 #[.slice a0 len0 cap0] w fun e w' => e = .returned (.bool true) ∧ Below w.heap.size w w' := by
  obtain ⟨l0, rfl, hr0, hm0, hw0, hc0⟩ := ReadsInt.ofRowC w0
  obtain ⟨k, h⟩ := P l0 hm0 y0 hw0
  refine (laws_FnPartDigests.calls k _ _ l0 true w (Kd.C_of_reads (d := (0 : Int)) (h1 := fun _ => rfl) hr0) hc0 h ⟨rfl⟩).mono ?_
  rintro e w' ⟨rfl, hd⟩
  exact ⟨rfl, hd⟩

end Go.Proofs.Ytfeeifefmenlmaa.PFnPartDigests
