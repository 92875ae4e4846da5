-- Written by a program of this session, in the manner of the kit's print (wip/pp.py): functions and their contracts.
import Derived.Test.YtkejaolfbejokaaPFnExactMasterValidx0
import Derived.Test.YtkejaolfbejokaaPFnExactMasterValidx1
import Derived.Test.YtkejaolfbejokaaPFnExactMasterValidx6
import Derived.Test.YtkejaolfbejokaaPFnExactMasterValidx8
import Derived.Test.YtkejaolfbejokaaPFnExactMasterValidx9
namespace Go.Proofs.Ytkejaolfbejokaa.PFnExactMasterValid
open Go.RowKit Go.Proofs.YtkejaolfbejokaaW.PrintWords Go.Proofs.YtkejaolfbejokaaW.PrintLast Go.Proofs.YtkejaolfbejokaaW.PrintMore
attribute [local go_sem] binOp_leq_str binOp_gtr_str binOp_geq_str max2_int min2_int max_two min_two max_three min_three max_four min_four   -- for this text's walks alone
set_option linter.unusedVariables false
set_option linter.unusedSimpArgs false

attribute [local go_sem high] eqA64
/-! ### impl_RoutesValid: function 96 -/
def impl_RoutesValid.f (k : Nat) (l0 : List (S129)) : Option (Bool) := if (l0.length : Int) ≤ 6 then ((impl_spansOf.f k l0).bind fun t229 => ((impl_PartitionValid.f k t229).bind fun t232 => (if t232 = true then ((impl_numbersDiffer.f k l0).bind fun t233 => (some t233)) else (some false)))) else (some false)
theorem impl_RoutesValid.mono : ∀ a0 k, LeO (impl_RoutesValid.f k a0) (impl_RoutesValid.f (k + 1) a0) := by
  intro a0 k
  unfold impl_RoutesValid.f
  repeat' first
      | (with_reducible exact impl_PartitionValid.mono _ _)
      | (with_reducible exact impl_numbersDiffer.mono _ _)
      | (with_reducible exact impl_spansOf.mono _ _)
      | (with_reducible exact LeO.refl _)
      | (with_reducible exact LeO.none _)
      | (with_reducible refine LeO.ite ?_ ?_)
      | (with_reducible refine LeO.bind ?_ (fun _ => ?_))
      | exact impl_PartitionValid.mono _ _
      | exact impl_numbersDiffer.mono _ _
      | exact impl_spansOf.mono _ _
      | exact LeO.none _
      | refine LeO.ite ?_ ?_
      | refine LeO.bind ?_ (fun _ => ?_)
set_option maxHeartbeats 8000000 in
set_option maxRecDepth 100000 in
theorem impl_RoutesValid.calls (k : Nat) (A0 : Option Addr) (c0 : Nat) (l0 : List (S129)) (r : Bool) (w : World) (hr0 : Kd.C k129 w A0 l0.length l0) (hc0 : l0.length ≤ c0) (h : impl_RoutesValid.f k l0 = some r) :
    Calls Try.prog 96 #[.slice A0 l0.length c0] w fun e w' => e = .returned (.bool r) ∧ Below w.heap.size w w' := by
  have HR0 := Aside0.mk hr0
  have HC0 := Aside0.mk hc0
  clear hr0 hc0
  have HB := Aside0.mk (Below.refl w.heap.size w)
  have H : (if (l0.length : Int) ≤ 6 then ((impl_spansOf.f k l0).bind fun t229 => ((impl_PartitionValid.f k t229).bind fun t232 => (if t232 = true then ((impl_numbersDiffer.f k l0).bind fun t233 => (some t233)) else (some false)))) else (some false)) = some r := h
  clear h
  by_cases c2 : (l0.length : Int) ≤ 6
  · rw [if_pos c2] at H
    have c2b0 : decide ((l0.length : Int) ≤ 6) = true := decide_eq_true c2
    have c2b1 : decide (l0.length ≤ 6) = true := decide_eq_true (by omega)
    clear c2
    replace H := Option.bind_eq_some_iff.mp H
    obtain ⟨t229, A30, H⟩ := H
    replace H : ((impl_PartitionValid.f k t229).bind fun t232 => (if t232 = true then ((impl_numbersDiffer.f k l0).bind fun t233 => (some t233)) else (some false))) = some r := H
    have A3 := Aside0.mk A30
    clear A30
    replace H := Option.bind_eq_some_iff.mp H
    obtain ⟨t232, A40, H⟩ := H
    replace H : (if t232 = true then ((impl_numbersDiffer.f k l0).bind fun t233 => (some t233)) else (some false)) = some r := H
    have A4 := Aside0.mk A40
    clear A40
    by_cases c5 : t232 = true
    · subst c5
      have H1 : ((impl_numbersDiffer.f k l0).bind fun t233 => (some t233)) = some r := by rw [if_pos rfl] at H; exact H
      clear H
      have H := H1
      clear H1
      replace H := Option.bind_eq_some_iff.mp H
      obtain ⟨t233, A60, H⟩ := H
      replace H : (some t233) = some r := H
      have A6 := Aside0.mk A60
      clear A60
      obtain rfl := Option.some.inj H
      go_enter Try.func96, Try.ntmps96
      go_wp2_with (first | (go_at_call 137; (with_reducible refine (impl_spansOf.calls k _ _ l0 t229 _ ?side1 ?side2 A3.out).mono ?_); (case side1 => exact cc HR0.out); (case side2 => exact HC0.out); rintro e w7 ⟨v230, rfl, ho0, hb⟩; have n0_ := Aside0.mk (Kd.R_lower ho0 (below_size (bp HB.out))); have n1_ := an0 HB hb; clear HB; have HO231 := n0_; have HB := n1_; clear n0_ n1_; (try clear hb); (try clear hb2); (try clear hk); (try clear hi); (try clear ho0); obtain ⟨Ao8, co8, eo8⟩ := Kd.R_slice HO231.out; subst eo8) | (go_at_call 57; (with_reducible refine (impl_PartitionValid.calls k _ _ t229 true _ ?side1 ?side2 A4.out).mono ?_); (case side1 => repeat (first | exact (Kd.R_reads' HO231.out).2.2 | (with_reducible refine Kd.C_alloc ?_ _) | (with_reducible refine Kd.C_drewN ?_ _) | (with_reducible refine Kd.C_drew ?_))); (case side2 => exact (Kd.R_reads' HO231.out).2.1); rintro e w9 ⟨rfl, hb⟩; have n0_ := Aside0.mk (Kd.R_below (kr (HO231.out)) hb); have n1_ := an0 HB hb; clear HO231; clear HB; have HO231 := n0_; have HB := n1_; clear n0_ n1_; (try clear hb); (try clear hb2); (try clear hk); (try clear hi)) | (go_at_call 138; (with_reducible refine (impl_numbersDiffer.calls k _ _ l0 t233 _ ?side1 ?side2 A6.out).mono ?_); (case side1 => exact cc (Kd.C_below HR0.out HB.out)); (case side2 => exact HC0.out); rintro e w10 ⟨rfl, hb⟩; have n0_ := Aside0.mk (Kd.R_below (kr (HO231.out)) hb); have n1_ := an0 HB hb; clear HO231; clear HB; have HO231 := n0_; have HB := n1_; clear n0_ n1_; (try clear hb); (try clear hb2); (try clear hk); (try clear hi)))
      go_ret
      exact ⟨fe, bp HB.out⟩
    · replace c5 := Bool.eq_false_iff.mpr c5
      subst c5
      have H1 : (some false) = some r := by rw [if_neg (show ¬ (false = true) by decide)] at H; exact H
      clear H
      have H := H1
      clear H1
      obtain rfl := Option.some.inj H
      go_enter Try.func96, Try.ntmps96
      go_wp2_with (first | (go_at_call 137; (with_reducible refine (impl_spansOf.calls k _ _ l0 t229 _ ?side1 ?side2 A3.out).mono ?_); (case side1 => exact cc HR0.out); (case side2 => exact HC0.out); rintro e w11 ⟨v230, rfl, ho0, hb⟩; have n0_ := Aside0.mk (Kd.R_lower ho0 (below_size (bp HB.out))); have n1_ := an0 HB hb; clear HB; have HO231 := n0_; have HB := n1_; clear n0_ n1_; (try clear hb); (try clear hb2); (try clear hk); (try clear hi); (try clear ho0); obtain ⟨Ao12, co12, eo12⟩ := Kd.R_slice HO231.out; subst eo12) | (go_at_call 57; (with_reducible refine (impl_PartitionValid.calls k _ _ t229 false _ ?side1 ?side2 A4.out).mono ?_); (case side1 => repeat (first | exact (Kd.R_reads' HO231.out).2.2 | (with_reducible refine Kd.C_alloc ?_ _) | (with_reducible refine Kd.C_drewN ?_ _) | (with_reducible refine Kd.C_drew ?_))); (case side2 => exact (Kd.R_reads' HO231.out).2.1); rintro e w13 ⟨rfl, hb⟩; have n0_ := Aside0.mk (Kd.R_below (kr (HO231.out)) hb); have n1_ := an0 HB hb; clear HO231; clear HB; have HO231 := n0_; have HB := n1_; clear n0_ n1_; (try clear hb); (try clear hb2); (try clear hk); (try clear hi)))
      go_ret
      exact ⟨fe, bp HB.out⟩
  · rw [if_neg c2] at H
    have c2b0 : decide ((l0.length : Int) ≤ 6) = false := decide_eq_false c2
    have c2b1 : decide (l0.length ≤ 6) = false := decide_eq_false (by omega)
    clear c2
    obtain rfl := Option.some.inj H
    go_enter Try.func96, Try.ntmps96
    go_wp2
    go_ret
    exact ⟨fe, bp HB.out⟩

/-! ### impl_nodeValid: function 140 -/
def impl_nodeValid.f (a0 : Int) : Option (Bool) := if a0 ≥ 0 then (some (decide (a0 < 5))) else (some false)
set_option maxHeartbeats 8000000 in
set_option maxRecDepth 100000 in
theorem impl_nodeValid.calls (a0 : Int) (r : Bool) (w : World) (h : impl_nodeValid.f a0 = some r) :
    Calls Try.prog 140 #[.int .i64 a0] w fun e w' => e = .returned (.bool r) ∧ Drawn0 w w' := by
  have H : (if a0 ≥ 0 then (some (decide (a0 < 5))) else (some false)) = some r := h
  clear h
  by_cases c2 : a0 ≥ 0
  · rw [if_pos c2] at H
    have c2b0 : decide (0 ≤ a0) = true := decide_eq_true c2
    clear c2
    obtain rfl := Option.some.inj H
    go_enter Try.func140, Try.ntmps140
    go_wp2
    go_ret
    exact ⟨by first | rfl | (simp; done) | (simp [*]; done) | (simp [bne_nil_, beq_nil_]; done), by repeat (first | exact Drawn0.refl _ | apply Drawn0.step)⟩
  · rw [if_neg c2] at H
    have c2b0 : decide (0 ≤ a0) = false := decide_eq_false c2
    clear c2
    obtain rfl := Option.some.inj H
    go_enter Try.func140, Try.ntmps140
    go_wp2
    go_ret
    exact ⟨by first | rfl | (simp; done) | (simp [*]; done) | (simp [bne_nil_, beq_nil_]; done), by repeat (first | exact Drawn0.refl _ | apply Drawn0.step)⟩

/-! ### impl_PlanValid: function 97 -/
def impl_PlanValid.f (k : Nat) (a0_0 : Int) (a0_1 : Int) (a0_2 : Int) (a0_3 : ByteArray) (a0_4 : Int) (a0_5 : Int) (a0_6 : Int) : Option (Bool) := (impl_shardNumber.f a0_1).bind fun t235 => (if t235 = true then (if a0_0 = 1 then ((impl_KeyValid.f k a0_3).bind fun t236 => (if t236 = true then (some (a0_0 == 1 && (a0_2 == 0 && (a0_4 == 0 && (a0_5 == 0 && (a0_6 == 0)))))) else (some false))) else (if a0_0 = 2 then ((impl_shardNumber.f a0_2).bind fun t237 => (if t237 = true then (if a0_2 = a0_1 then (some false) else (some (a0_0 == 2 && (a0_3.toList == ([] : List UInt8) && (a0_4 == 0 && (a0_5 == 0 && (a0_6 == 0))))))) else (some false))) else (if a0_0 = 3 then ((impl_nodeValid.f a0_4).bind fun t238 => (if t238 = true then ((impl_nodeValid.f a0_5).bind fun t239 => (if t239 = true then (if a0_4 = a0_5 then (some false) else (if a0_6 = 0 then (if a0_2 = 0 then (some (a0_3.toList == ([] : List UInt8))) else (some false)) else (if a0_6 = 1 then (if a0_2 = 0 then (some (a0_3.toList == ([] : List UInt8))) else (some false)) else (some false)))) else (some false))) else (some false))) else (some false)))) else (some false))
theorem impl_PlanValid.mono : ∀ a0 a1 a2 a3 a4 a5 a6 k, LeO (impl_PlanValid.f k a0 a1 a2 a3 a4 a5 a6) (impl_PlanValid.f (k + 1) a0 a1 a2 a3 a4 a5 a6) := by
  intro a0 a1 a2 a3 a4 a5 a6 k
  unfold impl_PlanValid.f
  repeat' first
      | (with_reducible exact impl_KeyValid.mono _ _)
      | (with_reducible exact LeO.refl _)
      | (with_reducible exact LeO.none _)
      | (with_reducible refine LeO.ite ?_ ?_)
      | (with_reducible refine LeO.bind ?_ (fun _ => ?_))
      | exact impl_KeyValid.mono _ _
      | exact LeO.none _
      | refine LeO.ite ?_ ?_
      | refine LeO.bind ?_ (fun _ => ?_)
set_option maxHeartbeats 8000000 in
set_option maxRecDepth 100000 in
theorem impl_PlanValid.calls (k : Nat) (a0_0 : Int) (a0_1 : Int) (a0_2 : Int) (a0_3 : ByteArray) (a0_4 : Int) (a0_5 : Int) (a0_6 : Int) (r : Bool) (w : World) (h : impl_PlanValid.f k a0_0 a0_1 a0_2 a0_3 a0_4 a0_5 a0_6 = some r) :
    Calls Try.prog 97 #[.agg #[.int .i64 a0_0, .int .i64 a0_1, .int .i64 a0_2, .string a0_3, .int .i64 a0_4, .int .i64 a0_5, .int .i64 a0_6]] w fun e w' => e = .returned (.bool r) ∧ Below w.heap.size w w' := by
  have hu64 := Try.underlying64
  have HB := Aside0.mk (Below.refl w.heap.size w)
  have H : ((impl_shardNumber.f a0_1).bind fun t235 => (if t235 = true then (if a0_0 = 1 then ((impl_KeyValid.f k a0_3).bind fun t236 => (if t236 = true then (some (a0_0 == 1 && (a0_2 == 0 && (a0_4 == 0 && (a0_5 == 0 && (a0_6 == 0)))))) else (some false))) else (if a0_0 = 2 then ((impl_shardNumber.f a0_2).bind fun t237 => (if t237 = true then (if a0_2 = a0_1 then (some false) else (some (a0_0 == 2 && (a0_3.toList == ([] : List UInt8) && (a0_4 == 0 && (a0_5 == 0 && (a0_6 == 0))))))) else (some false))) else (if a0_0 = 3 then ((impl_nodeValid.f a0_4).bind fun t238 => (if t238 = true then ((impl_nodeValid.f a0_5).bind fun t239 => (if t239 = true then (if a0_4 = a0_5 then (some false) else (if a0_6 = 0 then (if a0_2 = 0 then (some (a0_3.toList == ([] : List UInt8))) else (some false)) else (if a0_6 = 1 then (if a0_2 = 0 then (some (a0_3.toList == ([] : List UInt8))) else (some false)) else (some false)))) else (some false))) else (some false))) else (some false)))) else (some false))) = some r := h
  clear h
  replace H := Option.bind_eq_some_iff.mp H
  obtain ⟨t235, A20, H⟩ := H
  replace H : (if t235 = true then (if a0_0 = 1 then ((impl_KeyValid.f k a0_3).bind fun t236 => (if t236 = true then (some (a0_0 == 1 && (a0_2 == 0 && (a0_4 == 0 && (a0_5 == 0 && (a0_6 == 0)))))) else (some false))) else (if a0_0 = 2 then ((impl_shardNumber.f a0_2).bind fun t237 => (if t237 = true then (if a0_2 = a0_1 then (some false) else (some (a0_0 == 2 && (a0_3.toList == ([] : List UInt8) && (a0_4 == 0 && (a0_5 == 0 && (a0_6 == 0))))))) else (some false))) else (if a0_0 = 3 then ((impl_nodeValid.f a0_4).bind fun t238 => (if t238 = true then ((impl_nodeValid.f a0_5).bind fun t239 => (if t239 = true then (if a0_4 = a0_5 then (some false) else (if a0_6 = 0 then (if a0_2 = 0 then (some (a0_3.toList == ([] : List UInt8))) else (some false)) else (if a0_6 = 1 then (if a0_2 = 0 then (some (a0_3.toList == ([] : List UInt8))) else (some false)) else (some false)))) else (some false))) else (some false))) else (some false)))) else (some false)) = some r := H
  have A2 := Aside0.mk A20
  clear A20
  by_cases c3 : t235 = true
  · subst c3
    have H1 : (if a0_0 = 1 then ((impl_KeyValid.f k a0_3).bind fun t236 => (if t236 = true then (some (a0_0 == 1 && (a0_2 == 0 && (a0_4 == 0 && (a0_5 == 0 && (a0_6 == 0)))))) else (some false))) else (if a0_0 = 2 then ((impl_shardNumber.f a0_2).bind fun t237 => (if t237 = true then (if a0_2 = a0_1 then (some false) else (some (a0_0 == 2 && (a0_3.toList == ([] : List UInt8) && (a0_4 == 0 && (a0_5 == 0 && (a0_6 == 0))))))) else (some false))) else (if a0_0 = 3 then ((impl_nodeValid.f a0_4).bind fun t238 => (if t238 = true then ((impl_nodeValid.f a0_5).bind fun t239 => (if t239 = true then (if a0_4 = a0_5 then (some false) else (if a0_6 = 0 then (if a0_2 = 0 then (some (a0_3.toList == ([] : List UInt8))) else (some false)) else (if a0_6 = 1 then (if a0_2 = 0 then (some (a0_3.toList == ([] : List UInt8))) else (some false)) else (some false)))) else (some false))) else (some false))) else (some false)))) = some r := by rw [if_pos rfl] at H; exact H
    clear H
    have H := H1
    clear H1
    by_cases c4 : a0_0 = 1
    · rw [if_pos c4] at H
      have c4b0 : (a0_0 == 1) = true := beq_iff_eq.mpr c4
      have c4b1 : (a0_0 != 1) = false := bne_eq_false_iff_eq.mpr c4
      clear c4
      replace H := Option.bind_eq_some_iff.mp H
      obtain ⟨t236, A50, H⟩ := H
      replace H : (if t236 = true then (some (a0_0 == 1 && (a0_2 == 0 && (a0_4 == 0 && (a0_5 == 0 && (a0_6 == 0)))))) else (some false)) = some r := H
      have A5 := Aside0.mk A50
      clear A50
      by_cases c6 : t236 = true
      · subst c6
        have H1 : (some (a0_0 == 1 && (a0_2 == 0 && (a0_4 == 0 && (a0_5 == 0 && (a0_6 == 0)))))) = some r := by rw [if_pos rfl] at H; exact H
        clear H
        have H := H1
        clear H1
        obtain rfl := Option.some.inj H
        go_enter Try.func97, Try.ntmps97
        go_wp2_with (first | ((with_reducible refine gate_dst (N := 1) rfl ?_); refine bxe (N := 1) (cs := #[.int .i64 a0_0, .int .i64 a0_1, .int .i64 a0_2, .string a0_3, .int .i64 a0_4, .int .i64 a0_5, .int .i64 a0_6]) (t := 64) ?_; intro gb234 hg w7 hbox hb; have BK234 := Aside0.mk (hbox); have GW234 := an2 HB hg; have GE234 := an2 HB hg; replace HB := an0 HB hb; clear hb hbox hg; obtain ⟨hcz8_0, hcz8_1, hcz8_2, hcz8_3, hcz8_4, hcz8_5, hcz8_6, hfz8_0, hfz8_1, hfz8_2, hfz8_3, hfz8_4, hfz8_5, hfz8_6⟩ := cl7 BK234) | ((with_reducible refine gate_callee (f := 139) rfl ?_); refine gsl (some 5) rfl Try.func139 #[.int .i64 a0_1] rfl ?_; (with_reducible refine (impl_shardNumber.calls a0_1 true _ A2.out).mono ?_); rintro e w' ⟨rfl, ⟨nd, rfl⟩⟩; refine ⟨_, rfl, ?_⟩) | ((with_reducible refine gate_callee (f := 67) rfl ?_); refine gsl (some 13) rfl Try.func67 #[.string a0_3] rfl ?_; (with_reducible refine (impl_KeyValid.calls k a0_3 true _ A5.out).mono ?_); rintro e w' ⟨rfl, ⟨nd, rfl⟩⟩; refine ⟨_, rfl, ?_⟩))
        go_ret
        exact ⟨fe, bp HB.out⟩
      · replace c6 := Bool.eq_false_iff.mpr c6
        subst c6
        have H1 : (some false) = some r := by rw [if_neg (show ¬ (false = true) by decide)] at H; exact H
        clear H
        have H := H1
        clear H1
        obtain rfl := Option.some.inj H
        go_enter Try.func97, Try.ntmps97
        go_wp2_with (first | ((with_reducible refine gate_dst (N := 1) rfl ?_); refine bxe (N := 1) (cs := #[.int .i64 a0_0, .int .i64 a0_1, .int .i64 a0_2, .string a0_3, .int .i64 a0_4, .int .i64 a0_5, .int .i64 a0_6]) (t := 64) ?_; intro gb234 hg w9 hbox hb; have BK234 := Aside0.mk (hbox); have GW234 := an2 HB hg; have GE234 := an2 HB hg; replace HB := an0 HB hb; clear hb hbox hg; obtain ⟨hcz10_0, hcz10_1, hcz10_2, hcz10_3, hcz10_4, hcz10_5, hcz10_6, hfz10_0, hfz10_1, hfz10_2, hfz10_3, hfz10_4, hfz10_5, hfz10_6⟩ := cl7 BK234) | ((with_reducible refine gate_callee (f := 139) rfl ?_); refine gsl (some 5) rfl Try.func139 #[.int .i64 a0_1] rfl ?_; (with_reducible refine (impl_shardNumber.calls a0_1 true _ A2.out).mono ?_); rintro e w' ⟨rfl, ⟨nd, rfl⟩⟩; refine ⟨_, rfl, ?_⟩) | ((with_reducible refine gate_callee (f := 67) rfl ?_); refine gsl (some 13) rfl Try.func67 #[.string a0_3] rfl ?_; (with_reducible refine (impl_KeyValid.calls k a0_3 false _ A5.out).mono ?_); rintro e w' ⟨rfl, ⟨nd, rfl⟩⟩; refine ⟨_, rfl, ?_⟩))
        go_ret
        exact ⟨fe, bp HB.out⟩
    · rw [if_neg c4] at H
      have c4b0 : (a0_0 == 1) = false := beq_eq_false_iff_ne.mpr c4
      have c4b1 : (a0_0 != 1) = true := bne_iff_ne.mpr c4
      by_cases c11 : a0_0 = 2
      · rw [if_pos c11] at H
        have c11b0 : (a0_0 == 2) = true := beq_iff_eq.mpr c11
        have c11b1 : (a0_0 != 2) = false := bne_eq_false_iff_eq.mpr c11
        clear c11
        replace H := Option.bind_eq_some_iff.mp H
        obtain ⟨t237, A120, H⟩ := H
        replace H : (if t237 = true then (if a0_2 = a0_1 then (some false) else (some (a0_0 == 2 && (a0_3.toList == ([] : List UInt8) && (a0_4 == 0 && (a0_5 == 0 && (a0_6 == 0))))))) else (some false)) = some r := H
        have A12 := Aside0.mk A120
        clear A120
        by_cases c13 : t237 = true
        · subst c13
          have H1 : (if a0_2 = a0_1 then (some false) else (some (a0_0 == 2 && (a0_3.toList == ([] : List UInt8) && (a0_4 == 0 && (a0_5 == 0 && (a0_6 == 0))))))) = some r := by rw [if_pos rfl] at H; exact H
          clear H
          have H := H1
          clear H1
          by_cases c14 : a0_2 = a0_1
          · rw [if_pos c14] at H
            have c14b0 : (a0_2 == a0_1) = true := beq_iff_eq.mpr c14
            have c14b1 : (a0_2 != a0_1) = false := bne_eq_false_iff_eq.mpr c14
            clear c14
            obtain rfl := Option.some.inj H
            go_enter Try.func97, Try.ntmps97
            go_wp2_with (first | ((with_reducible refine gate_dst (N := 1) rfl ?_); refine bxe (N := 1) (cs := #[.int .i64 a0_0, .int .i64 a0_1, .int .i64 a0_2, .string a0_3, .int .i64 a0_4, .int .i64 a0_5, .int .i64 a0_6]) (t := 64) ?_; intro gb234 hg w15 hbox hb; have BK234 := Aside0.mk (hbox); have GW234 := an2 HB hg; have GE234 := an2 HB hg; replace HB := an0 HB hb; clear hb hbox hg; obtain ⟨hcz16_0, hcz16_1, hcz16_2, hcz16_3, hcz16_4, hcz16_5, hcz16_6, hfz16_0, hfz16_1, hfz16_2, hfz16_3, hfz16_4, hfz16_5, hfz16_6⟩ := cl7 BK234) | ((with_reducible refine gate_callee (f := 139) rfl ?_); refine gsl (some 5) rfl Try.func139 #[.int .i64 a0_1] rfl ?_; (with_reducible refine (impl_shardNumber.calls a0_1 true _ A2.out).mono ?_); rintro e w' ⟨rfl, ⟨nd, rfl⟩⟩; refine ⟨_, rfl, ?_⟩) | ((with_reducible refine gate_callee (f := 139) rfl ?_); refine gsl (some 27) rfl Try.func139 #[.int .i64 a0_2] rfl ?_; (with_reducible refine (impl_shardNumber.calls a0_2 true _ A12.out).mono ?_); rintro e w' ⟨rfl, ⟨nd, rfl⟩⟩; refine ⟨_, rfl, ?_⟩))
            go_ret
            exact ⟨fe, bp HB.out⟩
          · rw [if_neg c14] at H
            have c14b0 : (a0_2 == a0_1) = false := beq_eq_false_iff_ne.mpr c14
            have c14b1 : (a0_2 != a0_1) = true := bne_iff_ne.mpr c14
            obtain rfl := Option.some.inj H
            go_enter Try.func97, Try.ntmps97
            go_wp2_with (first | ((with_reducible refine gate_dst (N := 1) rfl ?_); refine bxe (N := 1) (cs := #[.int .i64 a0_0, .int .i64 a0_1, .int .i64 a0_2, .string a0_3, .int .i64 a0_4, .int .i64 a0_5, .int .i64 a0_6]) (t := 64) ?_; intro gb234 hg w17 hbox hb; have BK234 := Aside0.mk (hbox); have GW234 := an2 HB hg; have GE234 := an2 HB hg; replace HB := an0 HB hb; clear hb hbox hg; obtain ⟨hcz18_0, hcz18_1, hcz18_2, hcz18_3, hcz18_4, hcz18_5, hcz18_6, hfz18_0, hfz18_1, hfz18_2, hfz18_3, hfz18_4, hfz18_5, hfz18_6⟩ := cl7 BK234) | ((with_reducible refine gate_callee (f := 139) rfl ?_); refine gsl (some 5) rfl Try.func139 #[.int .i64 a0_1] rfl ?_; (with_reducible refine (impl_shardNumber.calls a0_1 true _ A2.out).mono ?_); rintro e w' ⟨rfl, ⟨nd, rfl⟩⟩; refine ⟨_, rfl, ?_⟩) | ((with_reducible refine gate_callee (f := 139) rfl ?_); refine gsl (some 27) rfl Try.func139 #[.int .i64 a0_2] rfl ?_; (with_reducible refine (impl_shardNumber.calls a0_2 true _ A12.out).mono ?_); rintro e w' ⟨rfl, ⟨nd, rfl⟩⟩; refine ⟨_, rfl, ?_⟩))
            go_ret
            exact ⟨fe, bp HB.out⟩
        · replace c13 := Bool.eq_false_iff.mpr c13
          subst c13
          have H1 : (some false) = some r := by rw [if_neg (show ¬ (false = true) by decide)] at H; exact H
          clear H
          have H := H1
          clear H1
          obtain rfl := Option.some.inj H
          go_enter Try.func97, Try.ntmps97
          go_wp2_with (first | ((with_reducible refine gate_dst (N := 1) rfl ?_); refine bxe (N := 1) (cs := #[.int .i64 a0_0, .int .i64 a0_1, .int .i64 a0_2, .string a0_3, .int .i64 a0_4, .int .i64 a0_5, .int .i64 a0_6]) (t := 64) ?_; intro gb234 hg w19 hbox hb; have BK234 := Aside0.mk (hbox); have GW234 := an2 HB hg; have GE234 := an2 HB hg; replace HB := an0 HB hb; clear hb hbox hg; obtain ⟨hcz20_0, hcz20_1, hcz20_2, hcz20_3, hcz20_4, hcz20_5, hcz20_6, hfz20_0, hfz20_1, hfz20_2, hfz20_3, hfz20_4, hfz20_5, hfz20_6⟩ := cl7 BK234) | ((with_reducible refine gate_callee (f := 139) rfl ?_); refine gsl (some 5) rfl Try.func139 #[.int .i64 a0_1] rfl ?_; (with_reducible refine (impl_shardNumber.calls a0_1 true _ A2.out).mono ?_); rintro e w' ⟨rfl, ⟨nd, rfl⟩⟩; refine ⟨_, rfl, ?_⟩) | ((with_reducible refine gate_callee (f := 139) rfl ?_); refine gsl (some 27) rfl Try.func139 #[.int .i64 a0_2] rfl ?_; (with_reducible refine (impl_shardNumber.calls a0_2 false _ A12.out).mono ?_); rintro e w' ⟨rfl, ⟨nd, rfl⟩⟩; refine ⟨_, rfl, ?_⟩))
          go_ret
          exact ⟨fe, bp HB.out⟩
      · rw [if_neg c11] at H
        have c11b0 : (a0_0 == 2) = false := beq_eq_false_iff_ne.mpr c11
        have c11b1 : (a0_0 != 2) = true := bne_iff_ne.mpr c11
        by_cases c21 : a0_0 = 3
        · rw [if_pos c21] at H
          have c21b0 : (a0_0 == 3) = true := beq_iff_eq.mpr c21
          have c21b1 : (a0_0 != 3) = false := bne_eq_false_iff_eq.mpr c21
          clear c21
          replace H := Option.bind_eq_some_iff.mp H
          obtain ⟨t238, A220, H⟩ := H
          replace H : (if t238 = true then ((impl_nodeValid.f a0_5).bind fun t239 => (if t239 = true then (if a0_4 = a0_5 then (some false) else (if a0_6 = 0 then (if a0_2 = 0 then (some (a0_3.toList == ([] : List UInt8))) else (some false)) else (if a0_6 = 1 then (if a0_2 = 0 then (some (a0_3.toList == ([] : List UInt8))) else (some false)) else (some false)))) else (some false))) else (some false)) = some r := H
          have A22 := Aside0.mk A220
          clear A220
          by_cases c23 : t238 = true
          · subst c23
            have H1 : ((impl_nodeValid.f a0_5).bind fun t239 => (if t239 = true then (if a0_4 = a0_5 then (some false) else (if a0_6 = 0 then (if a0_2 = 0 then (some (a0_3.toList == ([] : List UInt8))) else (some false)) else (if a0_6 = 1 then (if a0_2 = 0 then (some (a0_3.toList == ([] : List UInt8))) else (some false)) else (some false)))) else (some false))) = some r := by rw [if_pos rfl] at H; exact H
            clear H
            have H := H1
            clear H1
            replace H := Option.bind_eq_some_iff.mp H
            obtain ⟨t239, A240, H⟩ := H
            replace H : (if t239 = true then (if a0_4 = a0_5 then (some false) else (if a0_6 = 0 then (if a0_2 = 0 then (some (a0_3.toList == ([] : List UInt8))) else (some false)) else (if a0_6 = 1 then (if a0_2 = 0 then (some (a0_3.toList == ([] : List UInt8))) else (some false)) else (some false)))) else (some false)) = some r := H
            have A24 := Aside0.mk A240
            clear A240
            by_cases c25 : t239 = true
            · subst c25
              have H1 : (if a0_4 = a0_5 then (some false) else (if a0_6 = 0 then (if a0_2 = 0 then (some (a0_3.toList == ([] : List UInt8))) else (some false)) else (if a0_6 = 1 then (if a0_2 = 0 then (some (a0_3.toList == ([] : List UInt8))) else (some false)) else (some false)))) = some r := by rw [if_pos rfl] at H; exact H
              clear H
              have H := H1
              clear H1
              by_cases c26 : a0_4 = a0_5
              · rw [if_pos c26] at H
                have c26b0 : (a0_4 == a0_5) = true := beq_iff_eq.mpr c26
                have c26b1 : (a0_4 != a0_5) = false := bne_eq_false_iff_eq.mpr c26
                clear c26
                obtain rfl := Option.some.inj H
                go_enter Try.func97, Try.ntmps97
                go_wp2_with (first | ((with_reducible refine gate_dst (N := 1) rfl ?_); refine bxe (N := 1) (cs := #[.int .i64 a0_0, .int .i64 a0_1, .int .i64 a0_2, .string a0_3, .int .i64 a0_4, .int .i64 a0_5, .int .i64 a0_6]) (t := 64) ?_; intro gb234 hg w27 hbox hb; have BK234 := Aside0.mk (hbox); have GW234 := an2 HB hg; have GE234 := an2 HB hg; replace HB := an0 HB hb; clear hb hbox hg; obtain ⟨hcz28_0, hcz28_1, hcz28_2, hcz28_3, hcz28_4, hcz28_5, hcz28_6, hfz28_0, hfz28_1, hfz28_2, hfz28_3, hfz28_4, hfz28_5, hfz28_6⟩ := cl7 BK234) | ((with_reducible refine gate_callee (f := 139) rfl ?_); refine gsl (some 5) rfl Try.func139 #[.int .i64 a0_1] rfl ?_; (with_reducible refine (impl_shardNumber.calls a0_1 true _ A2.out).mono ?_); rintro e w' ⟨rfl, ⟨nd, rfl⟩⟩; refine ⟨_, rfl, ?_⟩) | ((with_reducible refine gate_callee (f := 140) rfl ?_); refine gsl (some 48) rfl Try.func140 #[.int .i64 a0_4] rfl ?_; (with_reducible refine (impl_nodeValid.calls a0_4 true _ A22.out).mono ?_); rintro e w' ⟨rfl, ⟨nd, rfl⟩⟩; refine ⟨_, rfl, ?_⟩) | (go_at_call 140; (with_reducible refine (impl_nodeValid.calls a0_5 true _ A24.out).mono ?_); rintro e w' ⟨rfl, ⟨nd, rfl⟩⟩))
                go_ret
                exact ⟨fe, bp HB.out⟩
              · rw [if_neg c26] at H
                have c26b0 : (a0_4 == a0_5) = false := beq_eq_false_iff_ne.mpr c26
                have c26b1 : (a0_4 != a0_5) = true := bne_iff_ne.mpr c26
                by_cases c29 : a0_6 = 0
                · rw [if_pos c29] at H
                  have c29b0 : (a0_6 == 0) = true := beq_iff_eq.mpr c29
                  have c29b1 : (a0_6 != 0) = false := bne_eq_false_iff_eq.mpr c29
                  clear c29
                  by_cases c30 : a0_2 = 0
                  · rw [if_pos c30] at H
                    have c30b0 : (a0_2 == 0) = true := beq_iff_eq.mpr c30
                    have c30b1 : (a0_2 != 0) = false := bne_eq_false_iff_eq.mpr c30
                    clear c30
                    obtain rfl := Option.some.inj H
                    go_enter Try.func97, Try.ntmps97
                    go_wp2_with (first | ((with_reducible refine gate_dst (N := 1) rfl ?_); refine bxe (N := 1) (cs := #[.int .i64 a0_0, .int .i64 a0_1, .int .i64 a0_2, .string a0_3, .int .i64 a0_4, .int .i64 a0_5, .int .i64 a0_6]) (t := 64) ?_; intro gb234 hg w31 hbox hb; have BK234 := Aside0.mk (hbox); have GW234 := an2 HB hg; have GE234 := an2 HB hg; replace HB := an0 HB hb; clear hb hbox hg; obtain ⟨hcz32_0, hcz32_1, hcz32_2, hcz32_3, hcz32_4, hcz32_5, hcz32_6, hfz32_0, hfz32_1, hfz32_2, hfz32_3, hfz32_4, hfz32_5, hfz32_6⟩ := cl7 BK234) | ((with_reducible refine gate_callee (f := 139) rfl ?_); refine gsl (some 5) rfl Try.func139 #[.int .i64 a0_1] rfl ?_; (with_reducible refine (impl_shardNumber.calls a0_1 true _ A2.out).mono ?_); rintro e w' ⟨rfl, ⟨nd, rfl⟩⟩; refine ⟨_, rfl, ?_⟩) | ((with_reducible refine gate_callee (f := 140) rfl ?_); refine gsl (some 48) rfl Try.func140 #[.int .i64 a0_4] rfl ?_; (with_reducible refine (impl_nodeValid.calls a0_4 true _ A22.out).mono ?_); rintro e w' ⟨rfl, ⟨nd, rfl⟩⟩; refine ⟨_, rfl, ?_⟩) | (go_at_call 140; (with_reducible refine (impl_nodeValid.calls a0_5 true _ A24.out).mono ?_); rintro e w' ⟨rfl, ⟨nd, rfl⟩⟩))
                    go_ret
                    exact ⟨fe, bp HB.out⟩
                  · rw [if_neg c30] at H
                    have c30b0 : (a0_2 == 0) = false := beq_eq_false_iff_ne.mpr c30
                    have c30b1 : (a0_2 != 0) = true := bne_iff_ne.mpr c30
                    obtain rfl := Option.some.inj H
                    go_enter Try.func97, Try.ntmps97
                    go_wp2_with (first | ((with_reducible refine gate_dst (N := 1) rfl ?_); refine bxe (N := 1) (cs := #[.int .i64 a0_0, .int .i64 a0_1, .int .i64 a0_2, .string a0_3, .int .i64 a0_4, .int .i64 a0_5, .int .i64 a0_6]) (t := 64) ?_; intro gb234 hg w33 hbox hb; have BK234 := Aside0.mk (hbox); have GW234 := an2 HB hg; have GE234 := an2 HB hg; replace HB := an0 HB hb; clear hb hbox hg; obtain ⟨hcz34_0, hcz34_1, hcz34_2, hcz34_3, hcz34_4, hcz34_5, hcz34_6, hfz34_0, hfz34_1, hfz34_2, hfz34_3, hfz34_4, hfz34_5, hfz34_6⟩ := cl7 BK234) | ((with_reducible refine gate_callee (f := 139) rfl ?_); refine gsl (some 5) rfl Try.func139 #[.int .i64 a0_1] rfl ?_; (with_reducible refine (impl_shardNumber.calls a0_1 true _ A2.out).mono ?_); rintro e w' ⟨rfl, ⟨nd, rfl⟩⟩; refine ⟨_, rfl, ?_⟩) | ((with_reducible refine gate_callee (f := 140) rfl ?_); refine gsl (some 48) rfl Try.func140 #[.int .i64 a0_4] rfl ?_; (with_reducible refine (impl_nodeValid.calls a0_4 true _ A22.out).mono ?_); rintro e w' ⟨rfl, ⟨nd, rfl⟩⟩; refine ⟨_, rfl, ?_⟩) | (go_at_call 140; (with_reducible refine (impl_nodeValid.calls a0_5 true _ A24.out).mono ?_); rintro e w' ⟨rfl, ⟨nd, rfl⟩⟩))
                    go_ret
                    exact ⟨fe, bp HB.out⟩
                · rw [if_neg c29] at H
                  have c29b0 : (a0_6 == 0) = false := beq_eq_false_iff_ne.mpr c29
                  have c29b1 : (a0_6 != 0) = true := bne_iff_ne.mpr c29
                  by_cases c35 : a0_6 = 1
                  · rw [if_pos c35] at H
                    have c35b0 : (a0_6 == 1) = true := beq_iff_eq.mpr c35
                    have c35b1 : (a0_6 != 1) = false := bne_eq_false_iff_eq.mpr c35
                    clear c35
                    by_cases c36 : a0_2 = 0
                    · rw [if_pos c36] at H
                      have c36b0 : (a0_2 == 0) = true := beq_iff_eq.mpr c36
                      have c36b1 : (a0_2 != 0) = false := bne_eq_false_iff_eq.mpr c36
                      clear c36
                      obtain rfl := Option.some.inj H
                      go_enter Try.func97, Try.ntmps97
                      go_wp2_with (first | ((with_reducible refine gate_dst (N := 1) rfl ?_); refine bxe (N := 1) (cs := #[.int .i64 a0_0, .int .i64 a0_1, .int .i64 a0_2, .string a0_3, .int .i64 a0_4, .int .i64 a0_5, .int .i64 a0_6]) (t := 64) ?_; intro gb234 hg w37 hbox hb; have BK234 := Aside0.mk (hbox); have GW234 := an2 HB hg; have GE234 := an2 HB hg; replace HB := an0 HB hb; clear hb hbox hg; obtain ⟨hcz38_0, hcz38_1, hcz38_2, hcz38_3, hcz38_4, hcz38_5, hcz38_6, hfz38_0, hfz38_1, hfz38_2, hfz38_3, hfz38_4, hfz38_5, hfz38_6⟩ := cl7 BK234) | ((with_reducible refine gate_callee (f := 139) rfl ?_); refine gsl (some 5) rfl Try.func139 #[.int .i64 a0_1] rfl ?_; (with_reducible refine (impl_shardNumber.calls a0_1 true _ A2.out).mono ?_); rintro e w' ⟨rfl, ⟨nd, rfl⟩⟩; refine ⟨_, rfl, ?_⟩) | ((with_reducible refine gate_callee (f := 140) rfl ?_); refine gsl (some 48) rfl Try.func140 #[.int .i64 a0_4] rfl ?_; (with_reducible refine (impl_nodeValid.calls a0_4 true _ A22.out).mono ?_); rintro e w' ⟨rfl, ⟨nd, rfl⟩⟩; refine ⟨_, rfl, ?_⟩) | (go_at_call 140; (with_reducible refine (impl_nodeValid.calls a0_5 true _ A24.out).mono ?_); rintro e w' ⟨rfl, ⟨nd, rfl⟩⟩))
                      go_ret
                      exact ⟨fe, bp HB.out⟩
                    · rw [if_neg c36] at H
                      have c36b0 : (a0_2 == 0) = false := beq_eq_false_iff_ne.mpr c36
                      have c36b1 : (a0_2 != 0) = true := bne_iff_ne.mpr c36
                      obtain rfl := Option.some.inj H
                      go_enter Try.func97, Try.ntmps97
                      go_wp2_with (first | ((with_reducible refine gate_dst (N := 1) rfl ?_); refine bxe (N := 1) (cs := #[.int .i64 a0_0, .int .i64 a0_1, .int .i64 a0_2, .string a0_3, .int .i64 a0_4, .int .i64 a0_5, .int .i64 a0_6]) (t := 64) ?_; intro gb234 hg w39 hbox hb; have BK234 := Aside0.mk (hbox); have GW234 := an2 HB hg; have GE234 := an2 HB hg; replace HB := an0 HB hb; clear hb hbox hg; obtain ⟨hcz40_0, hcz40_1, hcz40_2, hcz40_3, hcz40_4, hcz40_5, hcz40_6, hfz40_0, hfz40_1, hfz40_2, hfz40_3, hfz40_4, hfz40_5, hfz40_6⟩ := cl7 BK234) | ((with_reducible refine gate_callee (f := 139) rfl ?_); refine gsl (some 5) rfl Try.func139 #[.int .i64 a0_1] rfl ?_; (with_reducible refine (impl_shardNumber.calls a0_1 true _ A2.out).mono ?_); rintro e w' ⟨rfl, ⟨nd, rfl⟩⟩; refine ⟨_, rfl, ?_⟩) | ((with_reducible refine gate_callee (f := 140) rfl ?_); refine gsl (some 48) rfl Try.func140 #[.int .i64 a0_4] rfl ?_; (with_reducible refine (impl_nodeValid.calls a0_4 true _ A22.out).mono ?_); rintro e w' ⟨rfl, ⟨nd, rfl⟩⟩; refine ⟨_, rfl, ?_⟩) | (go_at_call 140; (with_reducible refine (impl_nodeValid.calls a0_5 true _ A24.out).mono ?_); rintro e w' ⟨rfl, ⟨nd, rfl⟩⟩))
                      go_ret
                      exact ⟨fe, bp HB.out⟩
                  · rw [if_neg c35] at H
                    have c35b0 : (a0_6 == 1) = false := beq_eq_false_iff_ne.mpr c35
                    have c35b1 : (a0_6 != 1) = true := bne_iff_ne.mpr c35
                    obtain rfl := Option.some.inj H
                    go_enter Try.func97, Try.ntmps97
                    go_wp2_with (first | ((with_reducible refine gate_dst (N := 1) rfl ?_); refine bxe (N := 1) (cs := #[.int .i64 a0_0, .int .i64 a0_1, .int .i64 a0_2, .string a0_3, .int .i64 a0_4, .int .i64 a0_5, .int .i64 a0_6]) (t := 64) ?_; intro gb234 hg w41 hbox hb; have BK234 := Aside0.mk (hbox); have GW234 := an2 HB hg; have GE234 := an2 HB hg; replace HB := an0 HB hb; clear hb hbox hg; obtain ⟨hcz42_0, hcz42_1, hcz42_2, hcz42_3, hcz42_4, hcz42_5, hcz42_6, hfz42_0, hfz42_1, hfz42_2, hfz42_3, hfz42_4, hfz42_5, hfz42_6⟩ := cl7 BK234) | ((with_reducible refine gate_callee (f := 139) rfl ?_); refine gsl (some 5) rfl Try.func139 #[.int .i64 a0_1] rfl ?_; (with_reducible refine (impl_shardNumber.calls a0_1 true _ A2.out).mono ?_); rintro e w' ⟨rfl, ⟨nd, rfl⟩⟩; refine ⟨_, rfl, ?_⟩) | ((with_reducible refine gate_callee (f := 140) rfl ?_); refine gsl (some 48) rfl Try.func140 #[.int .i64 a0_4] rfl ?_; (with_reducible refine (impl_nodeValid.calls a0_4 true _ A22.out).mono ?_); rintro e w' ⟨rfl, ⟨nd, rfl⟩⟩; refine ⟨_, rfl, ?_⟩) | (go_at_call 140; (with_reducible refine (impl_nodeValid.calls a0_5 true _ A24.out).mono ?_); rintro e w' ⟨rfl, ⟨nd, rfl⟩⟩))
                    go_ret
                    exact ⟨fe, bp HB.out⟩
            · replace c25 := Bool.eq_false_iff.mpr c25
              subst c25
              have H1 : (some false) = some r := by rw [if_neg (show ¬ (false = true) by decide)] at H; exact H
              clear H
              have H := H1
              clear H1
              obtain rfl := Option.some.inj H
              go_enter Try.func97, Try.ntmps97
              go_wp2_with (first | ((with_reducible refine gate_dst (N := 1) rfl ?_); refine bxe (N := 1) (cs := #[.int .i64 a0_0, .int .i64 a0_1, .int .i64 a0_2, .string a0_3, .int .i64 a0_4, .int .i64 a0_5, .int .i64 a0_6]) (t := 64) ?_; intro gb234 hg w43 hbox hb; have BK234 := Aside0.mk (hbox); have GW234 := an2 HB hg; have GE234 := an2 HB hg; replace HB := an0 HB hb; clear hb hbox hg; obtain ⟨hcz44_0, hcz44_1, hcz44_2, hcz44_3, hcz44_4, hcz44_5, hcz44_6, hfz44_0, hfz44_1, hfz44_2, hfz44_3, hfz44_4, hfz44_5, hfz44_6⟩ := cl7 BK234) | ((with_reducible refine gate_callee (f := 139) rfl ?_); refine gsl (some 5) rfl Try.func139 #[.int .i64 a0_1] rfl ?_; (with_reducible refine (impl_shardNumber.calls a0_1 true _ A2.out).mono ?_); rintro e w' ⟨rfl, ⟨nd, rfl⟩⟩; refine ⟨_, rfl, ?_⟩) | ((with_reducible refine gate_callee (f := 140) rfl ?_); refine gsl (some 48) rfl Try.func140 #[.int .i64 a0_4] rfl ?_; (with_reducible refine (impl_nodeValid.calls a0_4 true _ A22.out).mono ?_); rintro e w' ⟨rfl, ⟨nd, rfl⟩⟩; refine ⟨_, rfl, ?_⟩) | (go_at_call 140; (with_reducible refine (impl_nodeValid.calls a0_5 false _ A24.out).mono ?_); rintro e w' ⟨rfl, ⟨nd, rfl⟩⟩))
              go_ret
              exact ⟨fe, bp HB.out⟩
          · replace c23 := Bool.eq_false_iff.mpr c23
            subst c23
            have H1 : (some false) = some r := by rw [if_neg (show ¬ (false = true) by decide)] at H; exact H
            clear H
            have H := H1
            clear H1
            obtain rfl := Option.some.inj H
            go_enter Try.func97, Try.ntmps97
            go_wp2_with (first | ((with_reducible refine gate_dst (N := 1) rfl ?_); refine bxe (N := 1) (cs := #[.int .i64 a0_0, .int .i64 a0_1, .int .i64 a0_2, .string a0_3, .int .i64 a0_4, .int .i64 a0_5, .int .i64 a0_6]) (t := 64) ?_; intro gb234 hg w45 hbox hb; have BK234 := Aside0.mk (hbox); have GW234 := an2 HB hg; have GE234 := an2 HB hg; replace HB := an0 HB hb; clear hb hbox hg; obtain ⟨hcz46_0, hcz46_1, hcz46_2, hcz46_3, hcz46_4, hcz46_5, hcz46_6, hfz46_0, hfz46_1, hfz46_2, hfz46_3, hfz46_4, hfz46_5, hfz46_6⟩ := cl7 BK234) | ((with_reducible refine gate_callee (f := 139) rfl ?_); refine gsl (some 5) rfl Try.func139 #[.int .i64 a0_1] rfl ?_; (with_reducible refine (impl_shardNumber.calls a0_1 true _ A2.out).mono ?_); rintro e w' ⟨rfl, ⟨nd, rfl⟩⟩; refine ⟨_, rfl, ?_⟩) | ((with_reducible refine gate_callee (f := 140) rfl ?_); refine gsl (some 48) rfl Try.func140 #[.int .i64 a0_4] rfl ?_; (with_reducible refine (impl_nodeValid.calls a0_4 false _ A22.out).mono ?_); rintro e w' ⟨rfl, ⟨nd, rfl⟩⟩; refine ⟨_, rfl, ?_⟩))
            go_ret
            exact ⟨fe, bp HB.out⟩
        · rw [if_neg c21] at H
          have c21b0 : (a0_0 == 3) = false := beq_eq_false_iff_ne.mpr c21
          have c21b1 : (a0_0 != 3) = true := bne_iff_ne.mpr c21
          obtain rfl := Option.some.inj H
          go_enter Try.func97, Try.ntmps97
          go_wp2_with (first | ((with_reducible refine gate_dst (N := 1) rfl ?_); refine bxe (N := 1) (cs := #[.int .i64 a0_0, .int .i64 a0_1, .int .i64 a0_2, .string a0_3, .int .i64 a0_4, .int .i64 a0_5, .int .i64 a0_6]) (t := 64) ?_; intro gb234 hg w47 hbox hb; have BK234 := Aside0.mk (hbox); have GW234 := an2 HB hg; have GE234 := an2 HB hg; replace HB := an0 HB hb; clear hb hbox hg; obtain ⟨hcz48_0, hcz48_1, hcz48_2, hcz48_3, hcz48_4, hcz48_5, hcz48_6, hfz48_0, hfz48_1, hfz48_2, hfz48_3, hfz48_4, hfz48_5, hfz48_6⟩ := cl7 BK234) | ((with_reducible refine gate_callee (f := 139) rfl ?_); refine gsl (some 5) rfl Try.func139 #[.int .i64 a0_1] rfl ?_; (with_reducible refine (impl_shardNumber.calls a0_1 true _ A2.out).mono ?_); rintro e w' ⟨rfl, ⟨nd, rfl⟩⟩; refine ⟨_, rfl, ?_⟩))
          go_ret
          exact ⟨fe, bp HB.out⟩
  · replace c3 := Bool.eq_false_iff.mpr c3
    subst c3
    have H1 : (some false) = some r := by rw [if_neg (show ¬ (false = true) by decide)] at H; exact H
    clear H
    have H := H1
    clear H1
    obtain rfl := Option.some.inj H
    go_enter Try.func97, Try.ntmps97
    go_wp2_with (first | ((with_reducible refine gate_dst (N := 1) rfl ?_); refine bxe (N := 1) (cs := #[.int .i64 a0_0, .int .i64 a0_1, .int .i64 a0_2, .string a0_3, .int .i64 a0_4, .int .i64 a0_5, .int .i64 a0_6]) (t := 64) ?_; intro gb234 hg w49 hbox hb; have BK234 := Aside0.mk (hbox); have GW234 := an2 HB hg; have GE234 := an2 HB hg; replace HB := an0 HB hb; clear hb hbox hg; obtain ⟨hcz50_0, hcz50_1, hcz50_2, hcz50_3, hcz50_4, hcz50_5, hcz50_6, hfz50_0, hfz50_1, hfz50_2, hfz50_3, hfz50_4, hfz50_5, hfz50_6⟩ := cl7 BK234) | ((with_reducible refine gate_callee (f := 139) rfl ?_); refine gsl (some 5) rfl Try.func139 #[.int .i64 a0_1] rfl ?_; (with_reducible refine (impl_shardNumber.calls a0_1 false _ A2.out).mono ?_); rintro e w' ⟨rfl, ⟨nd, rfl⟩⟩; refine ⟨_, rfl, ?_⟩))
    go_ret
    exact ⟨fe, bp HB.out⟩

end Go.Proofs.Ytkejaolfbejokaa.PFnExactMasterValid
