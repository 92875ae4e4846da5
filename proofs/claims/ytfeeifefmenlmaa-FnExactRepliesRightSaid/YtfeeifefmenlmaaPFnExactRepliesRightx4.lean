-- Written by a program of this session, in the manner of the kit's print (wip/pp.py): functions and their contracts.
import Derived.Test.YtfeeifefmenlmaaPFnExactRepliesRightx0
import Derived.Test.YtfeeifefmenlmaaPFnExactRepliesRightx1
import Derived.Test.YtfeeifefmenlmaaPFnExactRepliesRightx3
namespace Go.Proofs.Ytfeeifefmenlmaa.PFnExactRepliesRight
open Go.RowKit Go.Proofs.YtfeeifefmenlmaaW.PrintWords Go.Proofs.YtfeeifefmenlmaaW.PrintLast Go.Proofs.YtfeeifefmenlmaaW.PrintMore
attribute [local go_sem] binOp_leq_str binOp_gtr_str binOp_geq_str max2_int min2_int max_two min_two max_three min_three max_four min_four   -- for this text's walks alone
set_option linter.unusedVariables false
set_option linter.unusedSimpArgs false

/-! ### spec_PairGet: function 91 -/
def spec_PairGet.f (k : Nat) (l0 : List (S29)) (a1 : ByteArray) : Option (Int) := (spec_l4Place.f k l0 a1).bind fun t138 => ((spec_PairsValid.f k l0).bind fun t139 => (if t139 = true then (if t138 = (l0.length : Int) then (some (-1)) else (if 0 ≤ t138 then (if t138 < (l0.length : Int) then (if ((rd_T29 l0 t138).f0).toList = a1.toList then (some ((rd_T29 l0 t138).f1)) else (some (-1))) else (none)) else (none))) else (some (-1))))
theorem spec_PairGet.mono : ∀ a0 a1 k, LeO (spec_PairGet.f k a0 a1) (spec_PairGet.f (k + 1) a0 a1) := by
  intro a0 a1 k
  unfold spec_PairGet.f
  repeat' first
      | (with_reducible exact spec_PairsValid.mono _ _)
      | (with_reducible exact spec_l4Place.mono _ _ _)
      | (with_reducible exact LeO.refl _)
      | (with_reducible exact LeO.none _)
      | (with_reducible refine LeO.ite ?_ ?_)
      | (with_reducible refine LeO.bind ?_ (fun _ => ?_))
      | exact spec_PairsValid.mono _ _
      | exact spec_l4Place.mono _ _ _
      | exact LeO.none _
      | refine LeO.ite ?_ ?_
      | refine LeO.bind ?_ (fun _ => ?_)
set_option maxHeartbeats 8000000 in
set_option maxRecDepth 100000 in
theorem spec_PairGet.calls (k : Nat) (A0 : Option Addr) (c0 : Nat) (l0 : List (S29)) (a1 : ByteArray) (r : Int) (w : World) (hr0 : Kd.C k29 w A0 l0.length l0) (hc0 : l0.length ≤ c0) (h : spec_PairGet.f k l0 a1 = some r) :
    Calls Try.prog 91 #[.slice A0 l0.length c0, .string a1] w fun e w' => e = .returned (.int .i64 r) ∧ Below w.heap.size w w' := by
  have HR0 := Aside0.mk hr0
  have HC0 := Aside0.mk hc0
  clear hr0 hc0
  have HB := Aside0.mk (Below.refl w.heap.size w)
  have H : ((spec_l4Place.f k l0 a1).bind fun t138 => ((spec_PairsValid.f k l0).bind fun t139 => (if t139 = true then (if t138 = (l0.length : Int) then (some (-1)) else (if 0 ≤ t138 then (if t138 < (l0.length : Int) then (if ((rd_T29 l0 t138).f0).toList = a1.toList then (some ((rd_T29 l0 t138).f1)) else (some (-1))) else (none)) else (none))) else (some (-1))))) = some r := h
  clear h
  replace H := Option.bind_eq_some_iff.mp H
  obtain ⟨t138, A30, H⟩ := H
  replace H : ((spec_PairsValid.f k l0).bind fun t139 => (if t139 = true then (if t138 = (l0.length : Int) then (some (-1)) else (if 0 ≤ t138 then (if t138 < (l0.length : Int) then (if ((rd_T29 l0 t138).f0).toList = a1.toList then (some ((rd_T29 l0 t138).f1)) else (some (-1))) else (none)) else (none))) else (some (-1)))) = some r := H
  have A3 := Aside0.mk A30
  clear A30
  replace H := Option.bind_eq_some_iff.mp H
  obtain ⟨t139, A40, H⟩ := H
  replace H : (if t139 = true then (if t138 = (l0.length : Int) then (some (-1)) else (if 0 ≤ t138 then (if t138 < (l0.length : Int) then (if ((rd_T29 l0 t138).f0).toList = a1.toList then (some ((rd_T29 l0 t138).f1)) else (some (-1))) else (none)) else (none))) else (some (-1))) = some r := H
  have A4 := Aside0.mk A40
  clear A40
  by_cases c5 : t139 = true
  · subst c5
    have H1 : (if t138 = (l0.length : Int) then (some (-1)) else (if 0 ≤ t138 then (if t138 < (l0.length : Int) then (if ((rd_T29 l0 t138).f0).toList = a1.toList then (some ((rd_T29 l0 t138).f1)) else (some (-1))) else (none)) else (none))) = some r := by rw [if_pos rfl] at H; exact H
    clear H
    have H := H1
    clear H1
    by_cases c6 : t138 = (l0.length : Int)
    · rw [if_pos c6] at H
      have c6b0 : (t138 == (l0.length : Int)) = true := beq_iff_eq.mpr c6
      have c6b1 : (t138 != (l0.length : Int)) = false := bne_eq_false_iff_eq.mpr c6
      clear c6
      obtain rfl := Option.some.inj H
      go_enter Try.func91, Try.ntmps91
      go_wp2_with (first | ((with_reducible refine gate_callee (f := 136) rfl ?_); refine gsl (some 8) rfl Try.func136 #[.slice A0 l0.length c0, .string a1] rfl ?_; (with_reducible refine (spec_l4Place.calls k _ _ l0 a1 t138 _ ?side1 ?side2 A3.out).mono ?_); (case side1 => exact cc HR0.out); (case side2 => exact HC0.out); rintro e w' ⟨rfl, ⟨nd, rfl⟩⟩; refine ⟨_, rfl, ?_⟩) | ((with_reducible refine gate_callee (f := 72) rfl ?_); refine gsl (some 10) rfl Try.func72 #[.slice A0 l0.length c0] rfl ?_; (with_reducible refine (spec_PairsValid.calls k _ _ l0 true _ ?side1 ?side2 A4.out).mono ?_); (case side1 => exact cc HR0.out); (case side2 => exact HC0.out); rintro e w7 ⟨rfl, hb⟩; refine ⟨_, rfl, ?_⟩; replace HB := an0 HB hb; (try clear hb); (try clear hb2); (try clear hk); (try clear hi)))
      go_ret
      exact ⟨fe, bp HB.out⟩
    · rw [if_neg c6] at H
      have c6b0 : (t138 == (l0.length : Int)) = false := beq_eq_false_iff_ne.mpr c6
      have c6b1 : (t138 != (l0.length : Int)) = true := bne_iff_ne.mpr c6
      by_cases c8 : 0 ≤ t138
      · rw [if_pos c8] at H
        have c8b0 : decide (0 ≤ t138) = true := decide_eq_true c8
        clear c8
        by_cases c9 : t138 < (l0.length : Int)
        · rw [if_pos c9] at H
          have c9b0 : decide (t138 < (l0.length : Int)) = true := decide_eq_true c9
          clear c9
          by_cases c10 : ((rd_T29 l0 t138).f0).toList = a1.toList
          · rw [if_pos c10] at H
            have c10b0 : (((rd_T29 l0 t138).f0).toList == a1.toList) = true := beq_iff_eq.mpr c10
            have c10b1 : (((rd_T29 l0 t138).f0).toList != a1.toList) = false := bne_eq_false_iff_eq.mpr c10
            clear c10
            obtain rfl := Option.some.inj H
            go_enter Try.func91, Try.ntmps91
            go_wp2_with (first | ((with_reducible refine gate_callee (f := 136) rfl ?_); refine gsl (some 8) rfl Try.func136 #[.slice A0 l0.length c0, .string a1] rfl ?_; (with_reducible refine (spec_l4Place.calls k _ _ l0 a1 t138 _ ?side1 ?side2 A3.out).mono ?_); (case side1 => exact cc HR0.out); (case side2 => exact HC0.out); rintro e w' ⟨rfl, ⟨nd, rfl⟩⟩; refine ⟨_, rfl, ?_⟩) | ((with_reducible refine gate_callee (f := 72) rfl ?_); refine gsl (some 10) rfl Try.func72 #[.slice A0 l0.length c0] rfl ?_; (with_reducible refine (spec_PairsValid.calls k _ _ l0 true _ ?side1 ?side2 A4.out).mono ?_); (case side1 => exact cc HR0.out); (case side2 => exact HC0.out); rintro e w11 ⟨rfl, hb⟩; refine ⟨_, rfl, ?_⟩; replace HB := an0 HB hb; (try clear hb); (try clear hb2); (try clear hk); (try clear hi); have p140 : 0 ≤ (t138 : Int) := of_decide_eq_true (by first | (with_reducible assumption) | assumption); have q140 : t138 < (l0.length : Int) := of_decide_eq_true (by first | (with_reducible assumption) | assumption); obtain ⟨ad140, e140, hx140_0, hx140_1⟩ := at_T29 HR0.out t138 p140 q140; cases e140; replace hx140_0 := hcx HB hx140_0; replace hx140_1 := hcx HB hx140_1; replace p140 := eq_true p140; replace q140 := eq_true q140; have p141 : 0 ≤ (t138 : Int) := of_decide_eq_true (by first | (with_reducible assumption) | assumption); have q141 : t138 < (l0.length : Int) := of_decide_eq_true (by first | (with_reducible assumption) | assumption); obtain ⟨ad141, e141, hx141_0, hx141_1⟩ := at_T29 HR0.out t138 p141 q141; obtain rfl : ad140 = ad141 := (by injection e141); replace hx141_0 := hcx HB hx141_0; replace hx141_1 := hcx HB hx141_1; replace p141 := eq_true p141; replace q141 := eq_true q141))
            go_ret
            exact ⟨fe, bp HB.out⟩
          · rw [if_neg c10] at H
            have c10b0 : (((rd_T29 l0 t138).f0).toList == a1.toList) = false := beq_eq_false_iff_ne.mpr c10
            have c10b1 : (((rd_T29 l0 t138).f0).toList != a1.toList) = true := bne_iff_ne.mpr c10
            obtain rfl := Option.some.inj H
            go_enter Try.func91, Try.ntmps91
            go_wp2_with (first | ((with_reducible refine gate_callee (f := 136) rfl ?_); refine gsl (some 8) rfl Try.func136 #[.slice A0 l0.length c0, .string a1] rfl ?_; (with_reducible refine (spec_l4Place.calls k _ _ l0 a1 t138 _ ?side1 ?side2 A3.out).mono ?_); (case side1 => exact cc HR0.out); (case side2 => exact HC0.out); rintro e w' ⟨rfl, ⟨nd, rfl⟩⟩; refine ⟨_, rfl, ?_⟩) | ((with_reducible refine gate_callee (f := 72) rfl ?_); refine gsl (some 10) rfl Try.func72 #[.slice A0 l0.length c0] rfl ?_; (with_reducible refine (spec_PairsValid.calls k _ _ l0 true _ ?side1 ?side2 A4.out).mono ?_); (case side1 => exact cc HR0.out); (case side2 => exact HC0.out); rintro e w12 ⟨rfl, hb⟩; refine ⟨_, rfl, ?_⟩; replace HB := an0 HB hb; (try clear hb); (try clear hb2); (try clear hk); (try clear hi); have p140 : 0 ≤ (t138 : Int) := of_decide_eq_true (by first | (with_reducible assumption) | assumption); have q140 : t138 < (l0.length : Int) := of_decide_eq_true (by first | (with_reducible assumption) | assumption); obtain ⟨ad140, e140, hx140_0, hx140_1⟩ := at_T29 HR0.out t138 p140 q140; cases e140; replace hx140_0 := hcx HB hx140_0; replace hx140_1 := hcx HB hx140_1; replace p140 := eq_true p140; replace q140 := eq_true q140))
            go_ret
            exact ⟨fe, bp HB.out⟩
        · rw [if_neg c9] at H
          exact absurd H (by simp)
      · rw [if_neg c8] at H
        exact absurd H (by simp)
  · replace c5 := Bool.eq_false_iff.mpr c5
    subst c5
    have H1 : (some (-1)) = some r := by rw [if_neg (show ¬ (false = true) by decide)] at H; exact H
    clear H
    have H := H1
    clear H1
    obtain rfl := Option.some.inj H
    go_enter Try.func91, Try.ntmps91
    go_wp2_with (first | ((with_reducible refine gate_callee (f := 136) rfl ?_); refine gsl (some 8) rfl Try.func136 #[.slice A0 l0.length c0, .string a1] rfl ?_; (with_reducible refine (spec_l4Place.calls k _ _ l0 a1 t138 _ ?side1 ?side2 A3.out).mono ?_); (case side1 => exact cc HR0.out); (case side2 => exact HC0.out); rintro e w' ⟨rfl, ⟨nd, rfl⟩⟩; refine ⟨_, rfl, ?_⟩) | ((with_reducible refine gate_callee (f := 72) rfl ?_); refine gsl (some 10) rfl Try.func72 #[.slice A0 l0.length c0] rfl ?_; (with_reducible refine (spec_PairsValid.calls k _ _ l0 false _ ?side1 ?side2 A4.out).mono ?_); (case side1 => exact cc HR0.out); (case side2 => exact HC0.out); rintro e w13 ⟨rfl, hb⟩; refine ⟨_, rfl, ?_⟩; replace HB := an0 HB hb; (try clear hb); (try clear hb2); (try clear hk); (try clear hi)))
    go_ret
    exact ⟨fe, bp HB.out⟩

/-! ### spec_PairDrop: function 92 -/
def spec_PairDrop.f (k : Nat) (l0 : List (S29)) (a1 : ByteArray) : Option ((List (S29)) × Bool) := (some (([] : List (S29)) : List (S29))).bind fun y142 => ((spec_PairsValid.f k l0).bind fun t145 => (if t145 = true then ((spec_l4Place.f k l0 a1).bind fun t146 => (if t146 = (l0.length : Int) then (if y142.length + l0.length < 5864062014805 then (some ((y142 ++ l0), false)) else (none)) else (if 0 ≤ t146 then (if t146 < (l0.length : Int) then (if ((rd_T29 l0 t146).f0).toList = a1.toList then (if t146 ≤ (l0.length : Int) then ((some (l0.take (t146 : Int).toNat : List (S29))).bind fun y151 => (if y142.length + y151.length < 5864062014805 then ((some (y142 ++ y151 : List (S29))).bind fun y155 => (if 0 ≤ (wrap64 (t146 + 1)) then (if (wrap64 (t146 + 1)) ≤ (l0.length : Int) then ((some (l0.drop ((wrap64 (t146 + 1)) : Int).toNat : List (S29))).bind fun y158 => (if y155.length + y158.length < 5864062014805 then (some ((y155 ++ y158), true)) else (none))) else (none)) else (none))) else (none))) else (none)) else (if y142.length + l0.length < 5864062014805 then (some ((y142 ++ l0), false)) else (none))) else (none)) else (none)))) else (some (y142, false))))
theorem spec_PairDrop.mono : ∀ a0 a1 k, LeO (spec_PairDrop.f k a0 a1) (spec_PairDrop.f (k + 1) a0 a1) := by
  intro a0 a1 k
  unfold spec_PairDrop.f
  repeat' first
      | (with_reducible exact spec_PairsValid.mono _ _)
      | (with_reducible exact spec_l4Place.mono _ _ _)
      | (with_reducible exact LeO.refl _)
      | (with_reducible exact LeO.none _)
      | (with_reducible refine LeO.ite ?_ ?_)
      | (with_reducible refine LeO.bind ?_ (fun _ => ?_))
      | exact spec_PairsValid.mono _ _
      | exact spec_l4Place.mono _ _ _
      | exact LeO.none _
      | refine LeO.ite ?_ ?_
      | refine LeO.bind ?_ (fun _ => ?_)
theorem spec_PairDrop.s0 {P0 P1 Q : Prop} (B0 : P0) (B1 : P1) (h : P0 → P1 → Q := by (intro b0_ b1_; repeat (first | exact (Kd.C_below b0_ (bp b1_)) | (with_reducible refine Kd.C_alloc ?_ _) | (with_reducible refine Kd.C_drewN ?_ _) | (with_reducible refine Kd.C_drew ?_)))) : Q := h B0 B1
set_option maxHeartbeats 8000000 in
set_option maxRecDepth 100000 in
theorem spec_PairDrop.calls (k : Nat) (A0 : Option Addr) (c0 : Nat) (l0 : List (S29)) (a1 : ByteArray) (r1 : List (S29)) (r2 : Bool) (w : World) (hr0 : Kd.C k29 w A0 l0.length l0) (hc0 : l0.length ≤ c0) (h : spec_PairDrop.f k l0 a1 = some (r1, r2)) :
    Calls Try.prog 92 #[.slice A0 l0.length c0, .string a1] w fun e w' => ∃ v0_ : Value, e = .returned (.tuple #[v0_, .bool r2]) ∧ Kd.R k29 29 w' w.heap.size (fun _ => True) v0_ r1 ∧ Below w.heap.size w w' := by
  have HR0 := Aside0.mk hr0
  have HC0 := Aside0.mk hc0
  clear hr0 hc0
  have HB := Aside0.mk (Below.refl w.heap.size w)
  have H : ((some (([] : List (S29)) : List (S29))).bind fun y142 => ((spec_PairsValid.f k l0).bind fun t145 => (if t145 = true then ((spec_l4Place.f k l0 a1).bind fun t146 => (if t146 = (l0.length : Int) then (if y142.length + l0.length < 5864062014805 then (some ((y142 ++ l0), false)) else (none)) else (if 0 ≤ t146 then (if t146 < (l0.length : Int) then (if ((rd_T29 l0 t146).f0).toList = a1.toList then (if t146 ≤ (l0.length : Int) then ((some (l0.take (t146 : Int).toNat : List (S29))).bind fun y151 => (if y142.length + y151.length < 5864062014805 then ((some (y142 ++ y151 : List (S29))).bind fun y155 => (if 0 ≤ (wrap64 (t146 + 1)) then (if (wrap64 (t146 + 1)) ≤ (l0.length : Int) then ((some (l0.drop ((wrap64 (t146 + 1)) : Int).toNat : List (S29))).bind fun y158 => (if y155.length + y158.length < 5864062014805 then (some ((y155 ++ y158), true)) else (none))) else (none)) else (none))) else (none))) else (none)) else (if y142.length + l0.length < 5864062014805 then (some ((y142 ++ l0), false)) else (none))) else (none)) else (none)))) else (some (y142, false))))) = some (r1, r2) := h
  clear h
  obtain ⟨y142, hy142⟩ : ∃ y_ : List (S29), y_ = (([] : List (S29))) := ⟨_, rfl⟩
  replace H : ((spec_PairsValid.f k l0).bind fun t145 => (if t145 = true then ((spec_l4Place.f k l0 a1).bind fun t146 => (if t146 = (l0.length : Int) then (if y142.length + l0.length < 5864062014805 then (some ((y142 ++ l0), false)) else (none)) else (if 0 ≤ t146 then (if t146 < (l0.length : Int) then (if ((rd_T29 l0 t146).f0).toList = a1.toList then (if t146 ≤ (l0.length : Int) then ((some (l0.take (t146 : Int).toNat : List (S29))).bind fun y151 => (if y142.length + y151.length < 5864062014805 then ((some (y142 ++ y151 : List (S29))).bind fun y155 => (if 0 ≤ (wrap64 (t146 + 1)) then (if (wrap64 (t146 + 1)) ≤ (l0.length : Int) then ((some (l0.drop ((wrap64 (t146 + 1)) : Int).toNat : List (S29))).bind fun y158 => (if y155.length + y158.length < 5864062014805 then (some ((y155 ++ y158), true)) else (none))) else (none)) else (none))) else (none))) else (none)) else (if y142.length + l0.length < 5864062014805 then (some ((y142 ++ l0), false)) else (none))) else (none)) else (none)))) else (some (y142, false)))) = some (r1, r2) := by first | (rw [hy142]; with_reducible exact H) | (have H2_ := (Option.bind_some _ _).symm.trans H; rw [hy142]; with_reducible exact H2_) | (have H2_ := (Option.bind_some _ _).symm.trans H; with_reducible exact H2_) | with_reducible exact H | (rw [hy142]; exact H) | exact H
  have Ny142 := Aside0.mk hy142
  clear hy142
  replace H := Option.bind_eq_some_iff.mp H
  obtain ⟨t145, A30, H⟩ := H
  replace H : (if t145 = true then ((spec_l4Place.f k l0 a1).bind fun t146 => (if t146 = (l0.length : Int) then (if y142.length + l0.length < 5864062014805 then (some ((y142 ++ l0), false)) else (none)) else (if 0 ≤ t146 then (if t146 < (l0.length : Int) then (if ((rd_T29 l0 t146).f0).toList = a1.toList then (if t146 ≤ (l0.length : Int) then ((some (l0.take (t146 : Int).toNat : List (S29))).bind fun y151 => (if y142.length + y151.length < 5864062014805 then ((some (y142 ++ y151 : List (S29))).bind fun y155 => (if 0 ≤ (wrap64 (t146 + 1)) then (if (wrap64 (t146 + 1)) ≤ (l0.length : Int) then ((some (l0.drop ((wrap64 (t146 + 1)) : Int).toNat : List (S29))).bind fun y158 => (if y155.length + y158.length < 5864062014805 then (some ((y155 ++ y158), true)) else (none))) else (none)) else (none))) else (none))) else (none)) else (if y142.length + l0.length < 5864062014805 then (some ((y142 ++ l0), false)) else (none))) else (none)) else (none)))) else (some (y142, false))) = some (r1, r2) := H
  have A3 := Aside0.mk A30
  clear A30
  by_cases c4 : t145 = true
  · subst c4
    have H1 : ((spec_l4Place.f k l0 a1).bind fun t146 => (if t146 = (l0.length : Int) then (if y142.length + l0.length < 5864062014805 then (some ((y142 ++ l0), false)) else (none)) else (if 0 ≤ t146 then (if t146 < (l0.length : Int) then (if ((rd_T29 l0 t146).f0).toList = a1.toList then (if t146 ≤ (l0.length : Int) then ((some (l0.take (t146 : Int).toNat : List (S29))).bind fun y151 => (if y142.length + y151.length < 5864062014805 then ((some (y142 ++ y151 : List (S29))).bind fun y155 => (if 0 ≤ (wrap64 (t146 + 1)) then (if (wrap64 (t146 + 1)) ≤ (l0.length : Int) then ((some (l0.drop ((wrap64 (t146 + 1)) : Int).toNat : List (S29))).bind fun y158 => (if y155.length + y158.length < 5864062014805 then (some ((y155 ++ y158), true)) else (none))) else (none)) else (none))) else (none))) else (none)) else (if y142.length + l0.length < 5864062014805 then (some ((y142 ++ l0), false)) else (none))) else (none)) else (none)))) = some (r1, r2) := by rw [if_pos rfl] at H; exact H
    clear H
    have H := H1
    clear H1
    replace H := Option.bind_eq_some_iff.mp H
    obtain ⟨t146, A50, H⟩ := H
    replace H : (if t146 = (l0.length : Int) then (if y142.length + l0.length < 5864062014805 then (some ((y142 ++ l0), false)) else (none)) else (if 0 ≤ t146 then (if t146 < (l0.length : Int) then (if ((rd_T29 l0 t146).f0).toList = a1.toList then (if t146 ≤ (l0.length : Int) then ((some (l0.take (t146 : Int).toNat : List (S29))).bind fun y151 => (if y142.length + y151.length < 5864062014805 then ((some (y142 ++ y151 : List (S29))).bind fun y155 => (if 0 ≤ (wrap64 (t146 + 1)) then (if (wrap64 (t146 + 1)) ≤ (l0.length : Int) then ((some (l0.drop ((wrap64 (t146 + 1)) : Int).toNat : List (S29))).bind fun y158 => (if y155.length + y158.length < 5864062014805 then (some ((y155 ++ y158), true)) else (none))) else (none)) else (none))) else (none))) else (none)) else (if y142.length + l0.length < 5864062014805 then (some ((y142 ++ l0), false)) else (none))) else (none)) else (none))) = some (r1, r2) := H
    have A5 := Aside0.mk A50
    clear A50
    by_cases c6 : t146 = (l0.length : Int)
    · rw [if_pos c6] at H
      have c6b0 : (t146 == (l0.length : Int)) = true := beq_iff_eq.mpr c6
      have c6b1 : (t146 != (l0.length : Int)) = false := bne_eq_false_iff_eq.mpr c6
      clear c6
      by_cases c7 : y142.length + l0.length < 5864062014805
      · rw [if_pos c7] at H
        have LMc7 := Aside0.mk c7
        clear c7
        obtain ⟨y147, hy147⟩ : ∃ y_ : List (S29), y_ = (y142 ++ l0) := ⟨_, rfl⟩
        replace H : (some (y147, false)) = some (r1, r2) := by first | (rw [hy147]; with_reducible exact H) | (have H2_ := (Option.bind_some _ _).symm.trans H; rw [hy147]; with_reducible exact H2_) | (have H2_ := (Option.bind_some _ _).symm.trans H; with_reducible exact H2_) | with_reducible exact H | (rw [hy147]; exact H) | exact H
        have Ny147 := Aside0.mk hy147
        clear hy147
        simp only [Option.some.injEq, Prod.mk.injEq] at H
        obtain ⟨rfl, rfl⟩ := H
        go_enter Try.func92, Try.ntmps92
        go_wp2_with (first | ((with_reducible refine gate_dst (N := 8) rfl ?_); refine Kd.R_lit k29 _ 29 ?hg (N := 8) ?hd (xs := ([] : List (S29))) (inner := []) (ok := fun _ => True) (okp := fun _ => True) ?hr ?hp (fun _ hk => hk) trivial (Below.refl _ _) (Nat.le_refl _) (by simp) ?_; (case hd => rfl); (case hg => rfl); (case hr => first | (go_simp; done) | (go_simp; rfl)); (case hp => exact (Reps.none _ _)); intro v143 w8 ho9 hb hg_ hnew_; clear hg_ hnew_; (first | rw [← Ny142.out] at ho9 | (simp only [Int.reduceToNat] at ho9; rw [← Ny142.out] at ho9)); have n0_ := Aside0.mk (Kd.R_lower ho9 (below_size (bp HB.out))); have n1_ := an0 HB hb; clear HB; have HO144 := n0_; have HB := n1_; clear n0_ n1_; clear hb ho9) | ((with_reducible refine gate_callee (f := 72) rfl ?_); refine gsl (some 10) rfl Try.func72 #[.slice A0 l0.length c0] rfl ?_; (with_reducible refine (spec_PairsValid.calls k _ _ l0 true _ ?side1 ?side2 A3.out).mono ?_); (case side1 => exact cc (Kd.C_below HR0.out HB.out)); (case side2 => exact HC0.out); rintro e w10 ⟨rfl, hb⟩; refine ⟨_, rfl, ?_⟩; have n0_ := Aside0.mk (Kd.R_below (kr HO144.out) hb); have n1_ := an0 HB hb; clear HO144; clear HB; have HO144 := n0_; have HB := n1_; clear n0_ n1_; (try clear hb); (try clear hb2); (try clear hk); (try clear hi)) | ((with_reducible refine gate_callee (f := 136) rfl ?_); refine gsl (some 15) rfl Try.func136 #[.slice A0 l0.length c0, .string a1] rfl ?_; (with_reducible refine (spec_l4Place.calls k _ _ l0 a1 t146 _ ?side1 ?side2 A5.out).mono ?_); (case side1 => exact cc (Kd.C_below HR0.out HB.out)); (case side2 => exact HC0.out); rintro e w' ⟨rfl, ⟨nd, rfl⟩⟩; refine ⟨_, rfl, ?_⟩) | ((with_reducible refine gate_builtin (b := .append) (xs := #[.tmp 29, .tmp 30]) rfl ?_); at_builtin; refine Kd.R_append_rows k29 (w0 := w) w.heap.size rfl (.tmp 29) (.tmp 30) 23 29 (.agg #[(.string ⟨#[]⟩), (.int .i64 0)]) 24 rfl Try.underlying23 info29 rfl (by decide) (by omega) v143 y142 l0 _ _ _ (fun _ => True) (fun _ => False) rfl rfl ?aO ?aR (fun _ _ h => h) (fun _ h => h.elim) ?aF ?aB ?aS ?aL ?_; (case aR => exact spec_PairDrop.s0 HR0.out HB.out); (case aB => exact (bp HB.out)); (case aF => exact (fun _ _ => trivial)); (case aO => exact (kr HO144.out)); (case aS => exact (below_size (bp HB.out))); (case aL => have := LMc7.out; omega); intro v148 w11 ho hb hg hat; rw [← Ny147.out] at ho; have n0_ := Aside0.mk (hb); have n1_ := Aside0.mk (ho); clear HB; clear HO144; have HB := n0_; have HO149 := n1_; clear n0_ n1_; clear ho hb hg hat))
        go_ret2
        exact ⟨_, fe, by (with_reducible repeat (first | apply Kd.R_alloc | apply Kd.R_drewN | apply Kd.R_drew)); exact HO149.out, bp HB.out⟩
      · rw [if_neg c7] at H
        exact absurd H (by simp)
    · rw [if_neg c6] at H
      have c6b0 : (t146 == (l0.length : Int)) = false := beq_eq_false_iff_ne.mpr c6
      have c6b1 : (t146 != (l0.length : Int)) = true := bne_iff_ne.mpr c6
      by_cases c12 : 0 ≤ t146
      · rw [if_pos c12] at H
        have c12b0 : decide (0 ≤ t146) = true := decide_eq_true c12
        clear c12
        by_cases c13 : t146 < (l0.length : Int)
        · rw [if_pos c13] at H
          have c13b0 : decide (t146 < (l0.length : Int)) = true := decide_eq_true c13
          clear c13
          by_cases c14 : ((rd_T29 l0 t146).f0).toList = a1.toList
          · rw [if_pos c14] at H
            have c14b0 : (((rd_T29 l0 t146).f0).toList == a1.toList) = true := beq_iff_eq.mpr c14
            have c14b1 : (((rd_T29 l0 t146).f0).toList != a1.toList) = false := bne_eq_false_iff_eq.mpr c14
            clear c14
            have c15b0 := eq_true (of_decide_eq_true (by first | (with_reducible assumption) | assumption) : 0 ≤ t146)
            by_cases c16 : t146 ≤ (l0.length : Int)
            · rw [if_pos c16] at H
              have c16b0 := eq_true c16
              have c16b1 : decide (t146 ≤ (l0.length : Int)) = true := decide_eq_true c16
              clear c16
              obtain ⟨y151, hy151⟩ : ∃ y_ : List (S29), y_ = (l0.take (t146 : Int).toNat) := ⟨_, rfl⟩
              replace H : (if y142.length + y151.length < 5864062014805 then ((some (y142 ++ y151 : List (S29))).bind fun y155 => (if 0 ≤ (wrap64 (t146 + 1)) then (if (wrap64 (t146 + 1)) ≤ (l0.length : Int) then ((some (l0.drop ((wrap64 (t146 + 1)) : Int).toNat : List (S29))).bind fun y158 => (if y155.length + y158.length < 5864062014805 then (some ((y155 ++ y158), true)) else (none))) else (none)) else (none))) else (none)) = some (r1, r2) := by first | (rw [hy151]; with_reducible exact H) | (have H2_ := (Option.bind_some _ _).symm.trans H; rw [hy151]; with_reducible exact H2_) | (have H2_ := (Option.bind_some _ _).symm.trans H; with_reducible exact H2_) | with_reducible exact H | (rw [hy151]; exact H) | exact H
              have Ny151 := Aside0.mk hy151
              clear hy151
              by_cases c17 : y142.length + y151.length < 5864062014805
              · rw [if_pos c17] at H
                have LMc17 := Aside0.mk c17
                clear c17
                obtain ⟨y155, hy155⟩ : ∃ y_ : List (S29), y_ = (y142 ++ y151) := ⟨_, rfl⟩
                replace H : (if 0 ≤ (wrap64 (t146 + 1)) then (if (wrap64 (t146 + 1)) ≤ (l0.length : Int) then ((some (l0.drop ((wrap64 (t146 + 1)) : Int).toNat : List (S29))).bind fun y158 => (if y155.length + y158.length < 5864062014805 then (some ((y155 ++ y158), true)) else (none))) else (none)) else (none)) = some (r1, r2) := by first | (rw [hy155]; with_reducible exact H) | (have H2_ := (Option.bind_some _ _).symm.trans H; rw [hy155]; with_reducible exact H2_) | (have H2_ := (Option.bind_some _ _).symm.trans H; with_reducible exact H2_) | with_reducible exact H | (rw [hy155]; exact H) | exact H
                have Ny155 := Aside0.mk hy155
                clear hy155
                obtain ⟨ji18, hji18⟩ : ∃ j_ : Int, (wrap64 (t146 + 1)) = j_ := ⟨_, rfl⟩
                replace H : (if 0 ≤ (ji18) then (if (ji18) ≤ (l0.length : Int) then ((some (l0.drop ((ji18) : Int).toNat : List (S29))).bind fun y158 => (if y155.length + y158.length < 5864062014805 then (some ((y155 ++ y158), true)) else (none))) else (none)) else (none)) = some (r1, r2) := by first | (rw [hji18] at H; exact H) | (simp only [hji18] at H ⊢; exact H)
                (try rw [hji18] at A3)
                (try rw [hji18] at A5)
                have hji18w : (IntKind.i64.wrap (t146 + 1)) = ji18 := (i64_w _).trans hji18
                by_cases c19 : 0 ≤ (ji18)
                · rw [if_pos c19] at H
                  have c19b0 := eq_true c19
                  have c19b1 : decide (0 ≤ (ji18)) = true := decide_eq_true c19
                  clear c19
                  by_cases c20 : (ji18) ≤ (l0.length : Int)
                  · rw [if_pos c20] at H
                    have c20b0 := eq_true c20
                    have c20b1 : decide ((ji18) ≤ (l0.length : Int)) = true := decide_eq_true c20
                    clear c20
                    obtain ⟨y158, hy158⟩ : ∃ y_ : List (S29), y_ = (l0.drop ((ji18) : Int).toNat) := ⟨_, rfl⟩
                    replace H : (if y155.length + y158.length < 5864062014805 then (some ((y155 ++ y158), true)) else (none)) = some (r1, r2) := by first | (rw [hy158]; with_reducible exact H) | (have H2_ := (Option.bind_some _ _).symm.trans H; rw [hy158]; with_reducible exact H2_) | (have H2_ := (Option.bind_some _ _).symm.trans H; with_reducible exact H2_) | with_reducible exact H | (rw [hy158]; exact H) | exact H
                    have Ny158 := Aside0.mk hy158
                    clear hy158
                    by_cases c21 : y155.length + y158.length < 5864062014805
                    · rw [if_pos c21] at H
                      have LMc21 := Aside0.mk c21
                      clear c21
                      obtain ⟨y162, hy162⟩ : ∃ y_ : List (S29), y_ = (y155 ++ y158) := ⟨_, rfl⟩
                      replace H : (some (y162, true)) = some (r1, r2) := by first | (rw [hy162]; with_reducible exact H) | (have H2_ := (Option.bind_some _ _).symm.trans H; rw [hy162]; with_reducible exact H2_) | (have H2_ := (Option.bind_some _ _).symm.trans H; with_reducible exact H2_) | with_reducible exact H | (rw [hy162]; exact H) | exact H
                      have Ny162 := Aside0.mk hy162
                      clear hy162
                      simp only [Option.some.injEq, Prod.mk.injEq] at H
                      obtain ⟨rfl, rfl⟩ := H
                      go_enter Try.func92, Try.ntmps92
                      go_wp2_with (first | ((with_reducible refine gate_dst (N := 8) rfl ?_); refine Kd.R_lit k29 _ 29 ?hg (N := 8) ?hd (xs := ([] : List (S29))) (inner := []) (ok := fun _ => True) (okp := fun _ => True) ?hr ?hp (fun _ hk => hk) trivial (Below.refl _ _) (Nat.le_refl _) (by simp) ?_; (case hd => rfl); (case hg => rfl); (case hr => first | (go_simp; done) | (go_simp; rfl)); (case hp => exact (Reps.none _ _)); intro v143 w22 ho23 hb hg_ hnew_; clear hg_ hnew_; (first | rw [← Ny142.out] at ho23 | (simp only [Int.reduceToNat] at ho23; rw [← Ny142.out] at ho23)); have n0_ := Aside0.mk (Kd.R_lower ho23 (below_size (bp HB.out))); have n1_ := an0 HB hb; clear HB; have HO144 := n0_; have HB := n1_; clear n0_ n1_; clear hb ho23) | ((with_reducible refine gate_callee (f := 72) rfl ?_); refine gsl (some 10) rfl Try.func72 #[.slice A0 l0.length c0] rfl ?_; (with_reducible refine (spec_PairsValid.calls k _ _ l0 true _ ?side1 ?side2 A3.out).mono ?_); (case side1 => exact cc (Kd.C_below HR0.out HB.out)); (case side2 => exact HC0.out); rintro e w24 ⟨rfl, hb⟩; refine ⟨_, rfl, ?_⟩; have n0_ := Aside0.mk (Kd.R_below (kr HO144.out) hb); have n1_ := an0 HB hb; clear HO144; clear HB; have HO144 := n0_; have HB := n1_; clear n0_ n1_; (try clear hb); (try clear hb2); (try clear hk); (try clear hi)) | ((with_reducible refine gate_callee (f := 136) rfl ?_); refine gsl (some 15) rfl Try.func136 #[.slice A0 l0.length c0, .string a1] rfl ?_; (with_reducible refine (spec_l4Place.calls k _ _ l0 a1 t146 _ ?side1 ?side2 A5.out).mono ?_); (case side1 => exact cc (Kd.C_below HR0.out HB.out)); (case side2 => exact HC0.out); rintro e w' ⟨rfl, ⟨nd, rfl⟩⟩; refine ⟨_, rfl, ?_⟩; have p150 : 0 ≤ (t146 : Int) := of_decide_eq_true (by first | (with_reducible assumption) | assumption); have q150 : t146 < (l0.length : Int) := of_decide_eq_true (by first | (with_reducible assumption) | assumption); obtain ⟨ad150, e150, hx150_0, hx150_1⟩ := at_T29 HR0.out t146 p150 q150; cases e150; replace hx150_0 := hcx HB hx150_0; replace hx150_1 := hcx HB hx150_1; replace p150 := eq_true p150; replace q150 := eq_true q150; have q25 : (t146 : Int) ≤ ((l0.length : Int) : Int) := of_decide_eq_true (by first | (with_reducible assumption) | assumption); obtain ⟨i025, hi025, _, hsz25, _⟩ := info_parts info29; have hroom25 : l0.length ≤ c0 := HC0.out; have hC25 : Kd.C k29 _ (some ad150) l0.length l0 := HR0.out; have hcut25 := cut_to (P := Try.prog) 23 29 .i64 Try.underlying23 hi025 (some ad150) l0.length c0 t146 (of_decide_eq_true (by first | (with_reducible assumption) | assumption)) q25 hroom25; have hr25 := Kd.C_take (m := (t146 : Int).toNat) hC25 (by omega); have hy25 : y151.length = (t146 : Int).toNat := (by rw [Ny151.out, List.length_take]; omega); rw [← Ny151.out] at hr25; rw [← hy25] at hcut25; have HR154 := Aside0.mk hr25; have HC154 := Aside0.mk (show y151.length ≤ c0 from by omega); clear hr25 hC25 hroom25 hi025 hsz25; have KY25 := Aside0.mk hy25; clear hy25; replace q25 := eq_true q25) | ((with_reducible refine gate_builtin (b := .append) (xs := #[.tmp 32, .tmp 35]) rfl ?_); at_builtin; refine Kd.R_append_rows k29 (w0 := w) w.heap.size rfl (.tmp 32) (.tmp 35) 23 29 (.agg #[(.string ⟨#[]⟩), (.int .i64 0)]) 24 rfl Try.underlying23 info29 rfl (by decide) (by omega) v143 y142 y151 _ _ _ (fun _ => True) (fun _ => False) rfl rfl ?aO ?aR (fun _ _ h => h) (fun _ h => h.elim) ?aF ?aB ?aS ?aL ?_; (case aR => exact spec_PairDrop.s0 HR154.out HB.out); (case aB => exact (bp HB.out)); (case aF => exact (fun _ _ => trivial)); (case aO => exact (kr HO144.out)); (case aS => exact (below_size (bp HB.out))); (case aL => have := LMc17.out; omega); intro v156 w26 ho hb hg hat; rw [← Ny155.out] at ho; have n0_ := Aside0.mk (hb); have n1_ := Aside0.mk (ho); clear HB; clear HO144; have HB := n0_; have HO157 := n1_; clear n0_ n1_; clear ho hb hg hat; have q27 : ((ji18) : Int) ≤ ((l0.length : Int) : Int) := of_decide_eq_true (by first | (with_reducible assumption) | assumption); obtain ⟨i027, hi027, _, hsz27, _⟩ := info_parts info29; have hroom27 : l0.length ≤ c0 := HC0.out; have hC27 : Kd.C k29 _ (some ad150) l0.length l0 := HR0.out; have q027 : (0 : Int) ≤ ((ji18) : Int) := of_decide_eq_true (by first | (with_reducible assumption) | assumption); have hcut27 := cut_from (P := Try.prog) 23 29 .i64 Try.underlying23 hi027 2 hsz27 (some ad150) l0.length c0 (ji18) q027 q27; have hr27 := Kd.C_drop (m := ((ji18) : Int).toNat) (c := c0) hC27 (by omega) hroom27; obtain ⟨A27, hA27⟩ : ∃ A_, A_ = (if c0 = ((ji18) : Int).toNat then (some ad150) else ((some ad150) : Option Addr).map (·.add (((ji18) : Int).toNat * 2))) := ⟨_, rfl⟩; obtain ⟨c27, hc27⟩ : ∃ c_, c_ = c0 - ((ji18) : Int).toNat := ⟨_, rfl⟩; have hy27 : y158.length = l0.length - ((ji18) : Int).toNat := (by rw [Ny158.out, List.length_drop] <;> omega); rw [show (l0).drop ((ji18) : Int).toNat = y158 from Ny158.out.symm] at hr27; replace hr27 : Kd.C k29 _ A27 y158.length y158 := (by rw [hA27]; exact hr27); rw [← hy27, ← hA27, ← hc27] at hcut27; have HR161 := Aside0.mk hr27; have HC161 := Aside0.mk (show y158.length ≤ c27 from by rw [hy27, hc27]; exact Nat.sub_le_sub_right hroom27 _); clear hr27 hC27 hroom27 hi027 hsz27 hc27; have KY27 := Aside0.mk hy27; have KA27 := Aside0.mk hA27; clear hy27 hA27; replace q27 := eq_true q27) | ((with_reducible refine gate_builtin (b := .append) (xs := #[.tmp 37, .tmp 41]) rfl ?_); at_builtin; refine Kd.R_append_rows k29 (w0 := w) w.heap.size rfl (.tmp 37) (.tmp 41) 23 29 (.agg #[(.string ⟨#[]⟩), (.int .i64 0)]) 24 rfl Try.underlying23 info29 rfl (by decide) (by omega) v156 y155 y158 _ _ _ (fun _ => True) (fun _ => False) rfl rfl ?aO ?aR (fun _ _ h => h) (fun _ h => h.elim) ?aF ?aB ?aS ?aL ?_; (case aR => exact cc (Kd.C_below HR161.out HB.out)); (case aB => exact (bp HB.out)); (case aF => exact (fun _ _ => trivial)); (case aO => exact (kr HO157.out)); (case aS => exact (below_size (bp HB.out))); (case aL => have := LMc21.out; omega); intro v163 w28 ho hb hg hat; rw [← Ny162.out] at ho; have n0_ := Aside0.mk (hb); have n1_ := Aside0.mk (ho); clear HB; clear HO157; have HB := n0_; have HO164 := n1_; clear n0_ n1_; clear ho hb hg hat))
                      go_ret2
                      exact ⟨_, by first | rfl | (simp [errW_none, errW_some] <;> rfl) | (simp only [← hji18]; first | rfl | (simp [errW_none, errW_some] <;> rfl)) | (simp [*, errW_none, errW_some] <;> rfl) | (simp only [IntKind.wrap_u8, show ∀ n_ : Int, wrap64 (n_ % 256) = n_ % 256 from fun n_ => by unfold wrap64; omega]; rfl), by (with_reducible repeat (first | apply Kd.R_alloc | apply Kd.R_drewN | apply Kd.R_drew)); exact HO164.out, bp HB.out⟩
                    · rw [if_neg c21] at H
                      exact absurd H (by simp)
                  · rw [if_neg c20] at H
                    exact absurd H (by simp)
                · rw [if_neg c19] at H
                  exact absurd H (by simp)
              · rw [if_neg c17] at H
                exact absurd H (by simp)
            · rw [if_neg c16] at H
              exact absurd H (by simp)
          · rw [if_neg c14] at H
            have c14b0 : (((rd_T29 l0 t146).f0).toList == a1.toList) = false := beq_eq_false_iff_ne.mpr c14
            have c14b1 : (((rd_T29 l0 t146).f0).toList != a1.toList) = true := bne_iff_ne.mpr c14
            by_cases c29 : y142.length + l0.length < 5864062014805
            · rw [if_pos c29] at H
              have LMc29 := Aside0.mk c29
              clear c29
              obtain ⟨y165, hy165⟩ : ∃ y_ : List (S29), y_ = (y142 ++ l0) := ⟨_, rfl⟩
              replace H : (some (y165, false)) = some (r1, r2) := by first | (rw [hy165]; with_reducible exact H) | (have H2_ := (Option.bind_some _ _).symm.trans H; rw [hy165]; with_reducible exact H2_) | (have H2_ := (Option.bind_some _ _).symm.trans H; with_reducible exact H2_) | with_reducible exact H | (rw [hy165]; exact H) | exact H
              have Ny165 := Aside0.mk hy165
              clear hy165
              simp only [Option.some.injEq, Prod.mk.injEq] at H
              obtain ⟨rfl, rfl⟩ := H
              go_enter Try.func92, Try.ntmps92
              go_wp2_with (first | ((with_reducible refine gate_dst (N := 8) rfl ?_); refine Kd.R_lit k29 _ 29 ?hg (N := 8) ?hd (xs := ([] : List (S29))) (inner := []) (ok := fun _ => True) (okp := fun _ => True) ?hr ?hp (fun _ hk => hk) trivial (Below.refl _ _) (Nat.le_refl _) (by simp) ?_; (case hd => rfl); (case hg => rfl); (case hr => first | (go_simp; done) | (go_simp; rfl)); (case hp => exact (Reps.none _ _)); intro v143 w30 ho31 hb hg_ hnew_; clear hg_ hnew_; (first | rw [← Ny142.out] at ho31 | (simp only [Int.reduceToNat] at ho31; rw [← Ny142.out] at ho31)); have n0_ := Aside0.mk (Kd.R_lower ho31 (below_size (bp HB.out))); have n1_ := an0 HB hb; clear HB; have HO144 := n0_; have HB := n1_; clear n0_ n1_; clear hb ho31) | ((with_reducible refine gate_callee (f := 72) rfl ?_); refine gsl (some 10) rfl Try.func72 #[.slice A0 l0.length c0] rfl ?_; (with_reducible refine (spec_PairsValid.calls k _ _ l0 true _ ?side1 ?side2 A3.out).mono ?_); (case side1 => exact cc (Kd.C_below HR0.out HB.out)); (case side2 => exact HC0.out); rintro e w32 ⟨rfl, hb⟩; refine ⟨_, rfl, ?_⟩; have n0_ := Aside0.mk (Kd.R_below (kr HO144.out) hb); have n1_ := an0 HB hb; clear HO144; clear HB; have HO144 := n0_; have HB := n1_; clear n0_ n1_; (try clear hb); (try clear hb2); (try clear hk); (try clear hi)) | ((with_reducible refine gate_callee (f := 136) rfl ?_); refine gsl (some 15) rfl Try.func136 #[.slice A0 l0.length c0, .string a1] rfl ?_; (with_reducible refine (spec_l4Place.calls k _ _ l0 a1 t146 _ ?side1 ?side2 A5.out).mono ?_); (case side1 => exact cc (Kd.C_below HR0.out HB.out)); (case side2 => exact HC0.out); rintro e w' ⟨rfl, ⟨nd, rfl⟩⟩; refine ⟨_, rfl, ?_⟩; have p150 : 0 ≤ (t146 : Int) := of_decide_eq_true (by first | (with_reducible assumption) | assumption); have q150 : t146 < (l0.length : Int) := of_decide_eq_true (by first | (with_reducible assumption) | assumption); obtain ⟨ad150, e150, hx150_0, hx150_1⟩ := at_T29 HR0.out t146 p150 q150; cases e150; replace hx150_0 := hcx HB hx150_0; replace hx150_1 := hcx HB hx150_1; replace p150 := eq_true p150; replace q150 := eq_true q150) | ((with_reducible refine gate_builtin (b := .append) (xs := #[.tmp 29, .tmp 30]) rfl ?_); at_builtin; refine Kd.R_append_rows k29 (w0 := w) w.heap.size rfl (.tmp 29) (.tmp 30) 23 29 (.agg #[(.string ⟨#[]⟩), (.int .i64 0)]) 24 rfl Try.underlying23 info29 rfl (by decide) (by omega) v143 y142 l0 _ _ _ (fun _ => True) (fun _ => False) rfl rfl ?aO ?aR (fun _ _ h => h) (fun _ h => h.elim) ?aF ?aB ?aS ?aL ?_; (case aR => exact spec_PairDrop.s0 HR0.out HB.out); (case aB => exact (bp HB.out)); (case aF => exact (fun _ _ => trivial)); (case aO => exact (kr HO144.out)); (case aS => exact (below_size (bp HB.out))); (case aL => have := LMc29.out; omega); intro v166 w33 ho hb hg hat; rw [← Ny165.out] at ho; have n0_ := Aside0.mk (hb); have n1_ := Aside0.mk (ho); clear HB; clear HO144; have HB := n0_; have HO167 := n1_; clear n0_ n1_; clear ho hb hg hat))
              go_ret2
              exact ⟨_, fe, by (with_reducible repeat (first | apply Kd.R_alloc | apply Kd.R_drewN | apply Kd.R_drew)); exact HO167.out, bp HB.out⟩
            · rw [if_neg c29] at H
              exact absurd H (by simp)
        · rw [if_neg c13] at H
          exact absurd H (by simp)
      · rw [if_neg c12] at H
        exact absurd H (by simp)
  · replace c4 := Bool.eq_false_iff.mpr c4
    subst c4
    have H1 : (some (y142, false)) = some (r1, r2) := by rw [if_neg (show ¬ (false = true) by decide)] at H; exact H
    clear H
    have H := H1
    clear H1
    simp only [Option.some.injEq, Prod.mk.injEq] at H
    obtain ⟨rfl, rfl⟩ := H
    go_enter Try.func92, Try.ntmps92
    go_wp2_with (first | ((with_reducible refine gate_dst (N := 8) rfl ?_); refine Kd.R_lit k29 _ 29 ?hg (N := 8) ?hd (xs := ([] : List (S29))) (inner := []) (ok := fun _ => True) (okp := fun _ => True) ?hr ?hp (fun _ hk => hk) trivial (Below.refl _ _) (Nat.le_refl _) (by simp) ?_; (case hd => rfl); (case hg => rfl); (case hr => first | (go_simp; done) | (go_simp; rfl)); (case hp => exact (Reps.none _ _)); intro v143 w34 ho35 hb hg_ hnew_; clear hg_ hnew_; (first | rw [← Ny142.out] at ho35 | (simp only [Int.reduceToNat] at ho35; rw [← Ny142.out] at ho35)); have n0_ := Aside0.mk (Kd.R_lower ho35 (below_size (bp HB.out))); have n1_ := an0 HB hb; clear HB; have HO144 := n0_; have HB := n1_; clear n0_ n1_; clear hb ho35) | ((with_reducible refine gate_callee (f := 72) rfl ?_); refine gsl (some 10) rfl Try.func72 #[.slice A0 l0.length c0] rfl ?_; (with_reducible refine (spec_PairsValid.calls k _ _ l0 false _ ?side1 ?side2 A3.out).mono ?_); (case side1 => exact cc (Kd.C_below HR0.out HB.out)); (case side2 => exact HC0.out); rintro e w36 ⟨rfl, hb⟩; refine ⟨_, rfl, ?_⟩; have n0_ := Aside0.mk (Kd.R_below (kr HO144.out) hb); have n1_ := an0 HB hb; clear HO144; clear HB; have HO144 := n0_; have HB := n1_; clear n0_ n1_; (try clear hb); (try clear hb2); (try clear hk); (try clear hi)))
    go_ret2
    exact ⟨_, fe, by (with_reducible repeat (first | apply Kd.R_alloc | apply Kd.R_drewN | apply Kd.R_drew)); exact HO144.out, bp HB.out⟩

/-! ### spec_PairPut: function 93 -/
mutual
def spec_PairPut.j0 : Nat → List (S29) → ByteArray → Int → List (S29) → Bool → Option ((List (S29)) × Bool)
  | 0, _, _, _, _, _ => none
  | k + 1, x0, x1, x2, x8, x23 => if x23 = true then (some (x8, false)) else ((spec_l4Place.f k x0 x1).bind fun t174 => (if t174 < (x0.length : Int) then (if 0 ≤ t174 then (spec_PairPut.j1 k x0 x1 x2 x8 t174 (((rd_T29 x0 t174).f0).toList == x1.toList)) else (none)) else (spec_PairPut.j1 k x0 x1 x2 x8 t174 false)))
def spec_PairPut.j1 : Nat → List (S29) → ByteArray → Int → List (S29) → Int → Bool → Option ((List (S29)) × Bool)
  | 0, _, _, _, _, _, _ => none
  | k + 1, x0, x1, x2, x8, x9, x40 => if x40 = true then (if x8.length + x0.length < 5864062014805 then ((some (x8 ++ x0 : List (S29))).bind fun y176 => (if 0 ≤ x9 then (if x9 < (y176.length : Int) then (some ((y176.set (x9 : Int).toNat (⟨(rd_T29 y176 x9).f0, x2⟩ : S29)), true)) else (none)) else (none))) else (none)) else (if (x0.length : Int) ≥ 48 then (if x8.length + x0.length < 5864062014805 then (some ((x8 ++ x0), false)) else (none)) else (if 0 ≤ x9 then (if x9 ≤ (x0.length : Int) then ((some (x0.take (x9 : Int).toNat : List (S29))).bind fun y183 => (if x8.length + y183.length < 5864062014805 then ((some (x8 ++ y183 : List (S29))).bind fun y187 => (if y187.length < 5864062014805 then ((some (y187 ++ [(⟨x1, x2⟩ : S29)] : List (S29))).bind fun y190 => ((some (x0.drop (x9 : Int).toNat : List (S29))).bind fun y193 => (if y190.length + y193.length < 5864062014805 then (some ((y190 ++ y193), true)) else (none)))) else (none))) else (none))) else (none)) else (none)))
end
def spec_PairPut.f (k : Nat) (l0 : List (S29)) (a1 : ByteArray) (a2 : Int) : Option ((List (S29)) × Bool) := (some (([] : List (S29)) : List (S29))).bind fun y168 => ((spec_PairsValid.f k l0).bind fun t171 => (if t171 = true then ((spec_KeyValid.f k a1).bind fun t172 => (if t172 = true then ((spec_l1In.f a2 0 999).bind fun t173 => (spec_PairPut.j0 k l0 a1 a2 y168 (!t173))) else (spec_PairPut.j0 k l0 a1 a2 y168 true))) else (spec_PairPut.j0 k l0 a1 a2 y168 true)))
theorem spec_PairPut.mono_l : ∀ k, (∀ y0 y1 y2 y3 y4, LeO (spec_PairPut.j0 k y0 y1 y2 y3 y4) (spec_PairPut.j0 (k + 1) y0 y1 y2 y3 y4)) ∧ (∀ y0 y1 y2 y3 y4 y5, LeO (spec_PairPut.j1 k y0 y1 y2 y3 y4 y5) (spec_PairPut.j1 (k + 1) y0 y1 y2 y3 y4 y5))
  | 0 => ⟨fun _ _ _ _ _ r h => by simp [spec_PairPut.j0] at h, fun _ _ _ _ _ _ r h => by simp [spec_PairPut.j1] at h⟩
  | k + 1 => by
    obtain ⟨ih0, ih1⟩ := spec_PairPut.mono_l k
    refine ⟨?_, ?_⟩
    · intro y0 y1 y2 y3 y4
      unfold spec_PairPut.j0
      repeat' first
      | (with_reducible exact ih0 _ _ _ _ _)
      | (with_reducible exact ih1 _ _ _ _ _ _)
      | (with_reducible exact spec_KeyValid.mono _ _)
      | (with_reducible exact spec_PairsValid.mono _ _)
      | (with_reducible exact spec_l4Place.mono _ _ _)
      | (with_reducible exact LeO.refl _)
      | (with_reducible exact LeO.none _)
      | (with_reducible refine LeO.ite ?_ ?_)
      | (with_reducible refine LeO.bind ?_ (fun _ => ?_))
      | exact ih0 _ _ _ _ _
      | exact ih1 _ _ _ _ _ _
      | exact spec_KeyValid.mono _ _
      | exact spec_PairsValid.mono _ _
      | exact spec_l4Place.mono _ _ _
      | exact LeO.none _
      | refine LeO.ite ?_ ?_
      | refine LeO.bind ?_ (fun _ => ?_)
    · intro y0 y1 y2 y3 y4 y5
      unfold spec_PairPut.j1
      repeat' first
      | (with_reducible exact ih0 _ _ _ _ _)
      | (with_reducible exact ih1 _ _ _ _ _ _)
      | (with_reducible exact spec_KeyValid.mono _ _)
      | (with_reducible exact spec_PairsValid.mono _ _)
      | (with_reducible exact spec_l4Place.mono _ _ _)
      | (with_reducible exact LeO.refl _)
      | (with_reducible exact LeO.none _)
      | (with_reducible refine LeO.ite ?_ ?_)
      | (with_reducible refine LeO.bind ?_ (fun _ => ?_))
      | exact ih0 _ _ _ _ _
      | exact ih1 _ _ _ _ _ _
      | exact spec_KeyValid.mono _ _
      | exact spec_PairsValid.mono _ _
      | exact spec_l4Place.mono _ _ _
      | exact LeO.none _
      | refine LeO.ite ?_ ?_
      | refine LeO.bind ?_ (fun _ => ?_)
theorem spec_PairPut.mono : ∀ a0 a1 a2 k, LeO (spec_PairPut.f k a0 a1 a2) (spec_PairPut.f (k + 1) a0 a1 a2) := by
  intro a0 a1 a2 k
  obtain ⟨ih0, ih1⟩ := spec_PairPut.mono_l k
  unfold spec_PairPut.f
  repeat' first
      | (with_reducible exact ih0 _ _ _ _ _)
      | (with_reducible exact ih1 _ _ _ _ _ _)
      | (with_reducible exact spec_KeyValid.mono _ _)
      | (with_reducible exact spec_PairsValid.mono _ _)
      | (with_reducible exact spec_l4Place.mono _ _ _)
      | (with_reducible exact LeO.refl _)
      | (with_reducible exact LeO.none _)
      | (with_reducible refine LeO.ite ?_ ?_)
      | (with_reducible refine LeO.bind ?_ (fun _ => ?_))
      | exact ih0 _ _ _ _ _
      | exact ih1 _ _ _ _ _ _
      | exact spec_KeyValid.mono _ _
      | exact spec_PairsValid.mono _ _
      | exact spec_l4Place.mono _ _ _
      | exact LeO.none _
      | refine LeO.ite ?_ ?_
      | refine LeO.bind ?_ (fun _ => ?_)
set_option maxHeartbeats 8000000 in
set_option maxRecDepth 100000 in
theorem spec_PairPut.calls (k : Nat) (A0 : Option Addr) (c0 : Nat) (l0 : List (S29)) (a1 : ByteArray) (a2 : Int) (r1 : List (S29)) (r2 : Bool) (w : World) (hr0 : Kd.C k29 w A0 l0.length l0) (hc0 : l0.length ≤ c0) (h : spec_PairPut.f k l0 a1 a2 = some (r1, r2)) :
    Calls Try.prog 93 #[.slice A0 l0.length c0, .string a1, .int .i64 a2] w fun e w' => ∃ v0_ : Value, e = .returned (.tuple #[v0_, .bool r2]) ∧ Kd.R k29 29 w' w.heap.size (fun _ => True) v0_ r1 ∧ Below w.heap.size w w' := by
  have hu29 := Try.underlying29
  have HR0 := Aside0.mk hr0
  have HC0 := Aside0.mk hc0
  clear hr0 hc0
  have HB := Aside0.mk (Below.refl w.heap.size w)
  have H : ((some (([] : List (S29)) : List (S29))).bind fun y168 => ((spec_PairsValid.f k l0).bind fun t171 => (if t171 = true then ((spec_KeyValid.f k a1).bind fun t172 => (if t172 = true then ((spec_l1In.f a2 0 999).bind fun t173 => (spec_PairPut.j0 k l0 a1 a2 y168 (!t173))) else (spec_PairPut.j0 k l0 a1 a2 y168 true))) else (spec_PairPut.j0 k l0 a1 a2 y168 true)))) = some (r1, r2) := h
  clear h
  obtain ⟨y168, hy168⟩ : ∃ y_ : List (S29), y_ = (([] : List (S29))) := ⟨_, rfl⟩
  replace H : ((spec_PairsValid.f k l0).bind fun t171 => (if t171 = true then ((spec_KeyValid.f k a1).bind fun t172 => (if t172 = true then ((spec_l1In.f a2 0 999).bind fun t173 => (spec_PairPut.j0 k l0 a1 a2 y168 (!t173))) else (spec_PairPut.j0 k l0 a1 a2 y168 true))) else (spec_PairPut.j0 k l0 a1 a2 y168 true))) = some (r1, r2) := by first | (rw [hy168]; with_reducible exact H) | (have H2_ := (Option.bind_some _ _).symm.trans H; rw [hy168]; with_reducible exact H2_) | (have H2_ := (Option.bind_some _ _).symm.trans H; with_reducible exact H2_) | with_reducible exact H | (rw [hy168]; exact H) | exact H
  have Ny168 := Aside0.mk hy168
  clear hy168
  have HC4 := Aside0.mk H
  clear H
  go_enter Try.func93, Try.ntmps93
  go_upto_region 2 with (first | ((with_reducible refine gate_dst (N := 10) rfl ?_); refine Kd.R_lit k29 _ 29 ?hg (N := 10) ?hd (xs := ([] : List (S29))) (inner := []) (ok := fun _ => True) (okp := fun _ => True) ?hr ?hp (fun _ hk => hk) trivial (Below.refl _ _) (Nat.le_refl _) (by simp) ?_; (case hd => rfl); (case hg => rfl); (case hr => first | (go_simp; done) | (go_simp; rfl)); (case hp => exact (Reps.none _ _)); intro v169 w5 ho6 hb hg_ hnew_; clear hg_ hnew_; (first | rw [← Ny168.out] at ho6 | (simp only [Int.reduceToNat] at ho6; rw [← Ny168.out] at ho6)); have n0_ := Aside0.mk (Kd.R_lower ho6 (below_size (bp HB.out))); have n1_ := an0 HB hb; clear HB; have HO170 := n0_; have HB := n1_; clear n0_ n1_; clear hb ho6))
  (try simp only [Act.put, List.setIfInBounds_toArray, List.set_cons_zero, List.set_cons_succ])
  go_cut [23] (fun v23 wc => ∃ (kq : Nat) (x23_3 : Bool), v23 = .bool x23_3 ∧ Aside0 (spec_PairPut.j0 kq l0 a1 a2 y168 x23_3 = some (r1, r2)) ∧ Aside0 (kq ≤ k) ∧ Aside0 (Kd.R k29 29 wc w.heap.size (fun _ => True) v169 y168) ∧ Aside0 (Below w.heap.size w wc))
  case first =>
    have H := HC4.out
    clear HC4
    replace H := Option.bind_eq_some_iff.mp H
    obtain ⟨t171, A70, H⟩ := H
    replace H : (if t171 = true then ((spec_KeyValid.f k a1).bind fun t172 => (if t172 = true then ((spec_l1In.f a2 0 999).bind fun t173 => (spec_PairPut.j0 k l0 a1 a2 y168 (!t173))) else (spec_PairPut.j0 k l0 a1 a2 y168 true))) else (spec_PairPut.j0 k l0 a1 a2 y168 true)) = some (r1, r2) := H
    have A7 := Aside0.mk A70
    clear A70
    by_cases c8 : t171 = true
    · subst c8
      have H1 : ((spec_KeyValid.f k a1).bind fun t172 => (if t172 = true then ((spec_l1In.f a2 0 999).bind fun t173 => (spec_PairPut.j0 k l0 a1 a2 y168 (!t173))) else (spec_PairPut.j0 k l0 a1 a2 y168 true))) = some (r1, r2) := by rw [if_pos rfl] at H; exact H
      clear H
      have H := H1
      clear H1
      replace H := Option.bind_eq_some_iff.mp H
      obtain ⟨t172, A90, H⟩ := H
      replace H : (if t172 = true then ((spec_l1In.f a2 0 999).bind fun t173 => (spec_PairPut.j0 k l0 a1 a2 y168 (!t173))) else (spec_PairPut.j0 k l0 a1 a2 y168 true)) = some (r1, r2) := H
      have A9 := Aside0.mk A90
      clear A90
      by_cases c10 : t172 = true
      · subst c10
        have H1 : ((spec_l1In.f a2 0 999).bind fun t173 => (spec_PairPut.j0 k l0 a1 a2 y168 (!t173))) = some (r1, r2) := by rw [if_pos rfl] at H; exact H
        clear H
        have H := H1
        clear H1
        replace H := Option.bind_eq_some_iff.mp H
        obtain ⟨t173, A110, H⟩ := H
        replace H : (spec_PairPut.j0 k l0 a1 a2 y168 (!t173)) = some (r1, r2) := H
        have A11 := Aside0.mk A110
        clear A110
        have H' := Aside0.mk H
        clear H
        go_wp2_with (first | ((with_reducible refine gate_callee (f := 72) rfl ?_); refine gsl (some 12) rfl Try.func72 #[.slice A0 l0.length c0] rfl ?_; (with_reducible refine (spec_PairsValid.calls k _ _ l0 true _ ?side1 ?side2 A7.out).mono ?_); (case side1 => exact cc (Kd.C_below HR0.out HB.out)); (case side2 => exact HC0.out); rintro e w12 ⟨rfl, hb⟩; refine ⟨_, rfl, ?_⟩; have n0_ := Aside0.mk (Kd.R_below (kr HO170.out) hb); have n1_ := an0 HB hb; clear HO170; clear HB; have HO170 := n0_; have HB := n1_; clear n0_ n1_; (try clear hb); (try clear hb2); (try clear hk); (try clear hi)) | (go_at_call 113; (with_reducible refine (spec_KeyValid.calls k a1 true _ A9.out).mono ?_); rintro e w' ⟨rfl, ⟨nd, rfl⟩⟩) | (go_at_call 112; (with_reducible refine (spec_l1In.calls a2 0 999 t173 _ A11.out).mono ?_); rintro e w' ⟨rfl, ⟨nd, rfl⟩⟩))
        go_meet
        case rel => exact ⟨_, (!t173), (by first | rfl | (simp; done) | (simp [*]; done) | (simp [bne_nil_, beq_nil_]; done)), H', ⟨by first | omega | exact Nat.le_refl _⟩, ⟨by (with_reducible repeat (first | apply Kd.R_alloc | apply Kd.R_drewN | apply Kd.R_drew)); exact HO170.out⟩, ⟨bp HB.out⟩⟩
      · replace c10 := Bool.eq_false_iff.mpr c10
        subst c10
        have H1 : (spec_PairPut.j0 k l0 a1 a2 y168 true) = some (r1, r2) := by rw [if_neg (show ¬ (false = true) by decide)] at H; exact H
        clear H
        have H := H1
        clear H1
        have H' := Aside0.mk H
        clear H
        go_wp2_with (first | ((with_reducible refine gate_callee (f := 72) rfl ?_); refine gsl (some 12) rfl Try.func72 #[.slice A0 l0.length c0] rfl ?_; (with_reducible refine (spec_PairsValid.calls k _ _ l0 true _ ?side1 ?side2 A7.out).mono ?_); (case side1 => exact cc (Kd.C_below HR0.out HB.out)); (case side2 => exact HC0.out); rintro e w13 ⟨rfl, hb⟩; refine ⟨_, rfl, ?_⟩; have n0_ := Aside0.mk (Kd.R_below (kr HO170.out) hb); have n1_ := an0 HB hb; clear HO170; clear HB; have HO170 := n0_; have HB := n1_; clear n0_ n1_; (try clear hb); (try clear hb2); (try clear hk); (try clear hi)) | (go_at_call 113; (with_reducible refine (spec_KeyValid.calls k a1 false _ A9.out).mono ?_); rintro e w' ⟨rfl, ⟨nd, rfl⟩⟩))
        go_meet
        case rel => exact ⟨_, (true), (by first | rfl | (simp; done) | (simp [*]; done) | (simp [bne_nil_, beq_nil_]; done)), H', ⟨by first | omega | exact Nat.le_refl _⟩, ⟨by (with_reducible repeat (first | apply Kd.R_alloc | apply Kd.R_drewN | apply Kd.R_drew)); exact HO170.out⟩, ⟨bp HB.out⟩⟩
    · replace c8 := Bool.eq_false_iff.mpr c8
      subst c8
      have H1 : (spec_PairPut.j0 k l0 a1 a2 y168 true) = some (r1, r2) := by rw [if_neg (show ¬ (false = true) by decide)] at H; exact H
      clear H
      have H := H1
      clear H1
      have H' := Aside0.mk H
      clear H
      go_wp2_with (first | ((with_reducible refine gate_callee (f := 72) rfl ?_); refine gsl (some 12) rfl Try.func72 #[.slice A0 l0.length c0] rfl ?_; (with_reducible refine (spec_PairsValid.calls k _ _ l0 false _ ?side1 ?side2 A7.out).mono ?_); (case side1 => exact cc (Kd.C_below HR0.out HB.out)); (case side2 => exact HC0.out); rintro e w14 ⟨rfl, hb⟩; refine ⟨_, rfl, ?_⟩; have n0_ := Aside0.mk (Kd.R_below (kr HO170.out) hb); have n1_ := an0 HB hb; clear HO170; clear HB; have HO170 := n0_; have HB := n1_; clear n0_ n1_; (try clear hb); (try clear hb2); (try clear hk); (try clear hi)))
      go_meet
      case rel => exact ⟨_, (true), (by first | rfl | (simp; done) | (simp [*]; done) | (simp [bne_nil_, beq_nil_]; done)), H', ⟨by first | omega | exact Nat.le_refl _⟩, ⟨by (with_reducible repeat (first | apply Kd.R_alloc | apply Kd.R_drewN | apply Kd.R_drew)); exact HO170.out⟩, ⟨bp HB.out⟩⟩
  case rest =>
    clear HC4
    try clear c1
    try clear p2
    try clear c7
    try clear c8
    try clear c9
    try clear c10
    obtain ⟨kq, x23_3, rfl, HA, HJ3, HO_8, HB⟩ := hcut
    cases kq with
    | zero => exact absurd HA.out (by simp [spec_PairPut.j0])
    | succ kj3 =>
      have H := HA.out
      clear HA
      simp only [spec_PairPut.j0] at H
      by_cases c15 : x23_3 = true
      · subst c15
        have H1 : (some (y168, false)) = some (r1, r2) := by rw [if_pos rfl] at H; exact H
        clear H
        have H := H1
        clear H1
        simp only [Option.some.injEq, Prod.mk.injEq] at H
        obtain ⟨rfl, rfl⟩ := H
        go_wp2
        go_ret2
        exact ⟨_, fe, by (with_reducible repeat (first | apply Kd.R_alloc | apply Kd.R_drewN | apply Kd.R_drew)); exact HO_8.out, bp HB.out⟩
      · replace c15 := Bool.eq_false_iff.mpr c15
        subst c15
        have H1 : ((spec_l4Place.f kj3 l0 a1).bind fun t174 => (if t174 < (l0.length : Int) then (if 0 ≤ t174 then (spec_PairPut.j1 kj3 l0 a1 a2 y168 t174 (((rd_T29 l0 t174).f0).toList == a1.toList)) else (none)) else (spec_PairPut.j1 kj3 l0 a1 a2 y168 t174 false))) = some (r1, r2) := by rw [if_neg (show ¬ (false = true) by decide)] at H; exact H
        clear H
        have H := H1
        clear H1
        replace H := Option.bind_eq_some_iff.mp H
        obtain ⟨t174, A160, H⟩ := H
        replace H : (if t174 < (l0.length : Int) then (if 0 ≤ t174 then (spec_PairPut.j1 kj3 l0 a1 a2 y168 t174 (((rd_T29 l0 t174).f0).toList == a1.toList)) else (none)) else (spec_PairPut.j1 kj3 l0 a1 a2 y168 t174 false)) = some (r1, r2) := H
        have A16 := Aside0.mk A160
        clear A160
        have HC17 := Aside0.mk H
        clear H
        go_upto_region 5 with (first | ((with_reducible refine gate_callee (f := 136) rfl ?_); refine gsl (some 27) rfl Try.func136 #[.slice A0 l0.length c0, .string a1] rfl ?_; (with_reducible refine (spec_l4Place.calls kj3 _ _ l0 a1 t174 _ ?side1 ?side2 A16.out).mono ?_); (case side1 => exact cc (Kd.C_below HR0.out HB.out)); (case side2 => exact HC0.out); rintro e w' ⟨rfl, ⟨nd, rfl⟩⟩; refine ⟨_, rfl, ?_⟩))
        (try simp only [Act.put, List.setIfInBounds_toArray, List.set_cons_zero, List.set_cons_succ])
        go_cut [40] (fun v40 wc => ∃ (kq : Nat) (x40_16 : Bool), v40 = .bool x40_16 ∧ Aside0 (spec_PairPut.j1 kq l0 a1 a2 y168 t174 x40_16 = some (r1, r2)) ∧ Aside0 (kq ≤ kj3) ∧ Aside0 (Kd.R k29 29 wc w.heap.size (fun _ => True) v169 y168) ∧ Aside0 (Below w.heap.size w wc))
        case first =>
          have H := HC17.out
          clear HC17
          by_cases c18 : t174 < (l0.length : Int)
          · rw [if_pos c18] at H
            have c18b0 : decide (t174 < (l0.length : Int)) = true := decide_eq_true c18
            clear c18
            (first | rw [c18b0] | (simp only [i64_w, i32_w]; rw [c18b0]) | skip)
            by_cases c19 : 0 ≤ t174
            · rw [if_pos c19] at H
              have c19b0 : decide (0 ≤ t174) = true := decide_eq_true c19
              clear c19
              have H' := Aside0.mk H
              clear H
              have p175 : 0 ≤ (t174 : Int) := of_decide_eq_true (by first | (with_reducible assumption) | assumption)
              have q175 : t174 < (l0.length : Int) := of_decide_eq_true (by first | (with_reducible assumption) | assumption)
              obtain ⟨ad175, e175, hx175_0, hx175_1⟩ := at_T29 HR0.out t174 p175 q175
              cases e175
              replace hx175_0 := hcx HB hx175_0
              replace hx175_1 := hcx HB hx175_1
              replace p175 := eq_true p175
              replace q175 := eq_true q175
              go_wp2
              go_meet
              case rel => exact ⟨_, ((((rd_T29 l0 t174).f0).toList == a1.toList)), (by first | rfl | (simp; done) | (simp [*]; done) | (simp [bne_nil_, beq_nil_]; done)), H', ⟨by have := HJ3.out; first | omega | exact Nat.le_refl _⟩, ⟨by (with_reducible repeat (first | apply Kd.R_alloc | apply Kd.R_drewN | apply Kd.R_drew)); exact HO_8.out⟩, ⟨bp HB.out⟩⟩
            · rw [if_neg c19] at H
              exact absurd H (by simp)
          · rw [if_neg c18] at H
            have c18b0 : decide (t174 < (l0.length : Int)) = false := decide_eq_false c18
            clear c18
            (first | rw [c18b0] | (simp only [i64_w, i32_w]; rw [c18b0]) | skip)
            have H' := Aside0.mk H
            clear H
            go_wp2
            go_meet
            case rel => exact ⟨_, (false), (by first | rfl | (simp; done) | (simp [*]; done) | (simp [bne_nil_, beq_nil_]; done)), H', ⟨by have := HJ3.out; first | omega | exact Nat.le_refl _⟩, ⟨by (with_reducible repeat (first | apply Kd.R_alloc | apply Kd.R_drewN | apply Kd.R_drew)); exact HO_8.out⟩, ⟨bp HB.out⟩⟩
        case rest =>
          clear HC17
          try clear c1
          try clear p1
          try clear q1
          try clear hx1
          try clear p2
          try clear p6
          try clear c7
          try clear c8
          try clear c9
          try clear c10
          try clear c13
          try clear c15
          try clear p17
          try clear q17
          try clear hx17
          try clear c18
          try clear c18b0
          try clear c19
          try clear c19b0
          try clear hx175_0
          try clear hx175_1
          try clear p175
          try clear p2
          try clear q175
          obtain ⟨kq, x40_16, rfl, HA, HJ16, HO_8, HB⟩ := hcut
          cases kq with
          | zero => exact absurd HA.out (by simp [spec_PairPut.j1])
          | succ kj16 =>
            have H := HA.out
            clear HA
            simp only [spec_PairPut.j1] at H
            by_cases c20 : x40_16 = true
            · subst c20
              have H1 : (if y168.length + l0.length < 5864062014805 then ((some (y168 ++ l0 : List (S29))).bind fun y176 => (if 0 ≤ t174 then (if t174 < (y176.length : Int) then (some ((y176.set (t174 : Int).toNat (⟨(rd_T29 y176 t174).f0, a2⟩ : S29)), true)) else (none)) else (none))) else (none)) = some (r1, r2) := by rw [if_pos rfl] at H; exact H
              clear H
              have H := H1
              clear H1
              by_cases c21 : y168.length + l0.length < 5864062014805
              · rw [if_pos c21] at H
                have LMc21 := Aside0.mk c21
                clear c21
                obtain ⟨y176, hy176⟩ : ∃ y_ : List (S29), y_ = (y168 ++ l0) := ⟨_, rfl⟩
                replace H : (if 0 ≤ t174 then (if t174 < (y176.length : Int) then (some ((y176.set (t174 : Int).toNat (⟨(rd_T29 y176 t174).f0, a2⟩ : S29)), true)) else (none)) else (none)) = some (r1, r2) := by first | (rw [hy176]; with_reducible exact H) | (have H2_ := (Option.bind_some _ _).symm.trans H; rw [hy176]; with_reducible exact H2_) | (have H2_ := (Option.bind_some _ _).symm.trans H; with_reducible exact H2_) | with_reducible exact H | (rw [hy176]; exact H) | exact H
                have Ny176 := Aside0.mk hy176
                clear hy176
                by_cases c22 : 0 ≤ t174
                · rw [if_pos c22] at H
                  have c22b0 : decide (0 ≤ t174) = true := decide_eq_true c22
                  clear c22
                  by_cases c23 : t174 < (y176.length : Int)
                  · rw [if_pos c23] at H
                    have c23b0 : decide (t174 < (y176.length : Int)) = true := decide_eq_true c23
                    clear c23
                    obtain ⟨y179, hy179⟩ : ∃ y_ : List (S29), y_ = (y176.set (t174 : Int).toNat (⟨(rd_T29 y176 t174).f0, a2⟩ : S29)) := ⟨_, rfl⟩
                    replace H : (some (y179, true)) = some (r1, r2) := by first | (rw [hy179]; with_reducible exact H) | (have H2_ := (Option.bind_some _ _).symm.trans H; rw [hy179]; with_reducible exact H2_) | (have H2_ := (Option.bind_some _ _).symm.trans H; with_reducible exact H2_) | with_reducible exact H | (rw [hy179]; exact H) | exact H
                    have Ny179 := Aside0.mk hy179
                    clear hy179
                    simp only [Option.some.injEq, Prod.mk.injEq] at H
                    obtain ⟨rfl, rfl⟩ := H
                    go_wp2_with (first | ((with_reducible refine gate_builtin (b := .append) (xs := #[.tmp 41, .tmp 42]) rfl ?_); at_builtin; refine Kd.R_append_rows k29 (w0 := w) w.heap.size rfl (.tmp 41) (.tmp 42) 23 29 (.agg #[(.string ⟨#[]⟩), (.int .i64 0)]) 24 rfl Try.underlying23 info29 rfl (by decide) (by omega) v169 y168 l0 _ _ _ (fun _ => True) (fun _ => False) rfl rfl ?aO ?aR (fun _ _ h => h) (fun _ h => h.elim) ?aF ?aB ?aS ?aL ?_; (case aR => exact cc (Kd.C_below HR0.out HB.out)); (case aB => exact (bp HB.out)); (case aF => exact (fun _ _ => trivial)); (case aO => exact (kr HO_8.out)); (case aS => exact (below_size (bp HB.out))); (case aL => have := LMc21.out; omega); intro v177 w25 ho hb hg hat; rw [← Ny176.out] at ho; have n0_ := Aside0.mk (hb); have n1_ := Aside0.mk (ho); clear HB; clear HO_8; have HB := n0_; have HO178 := n1_; clear n0_ n1_; clear ho hb hg hat; have p24 : 0 ≤ (t174 : Int) := of_decide_eq_true (by first | (with_reducible assumption) | assumption); have q24 : (t174 : Int) < ((y176.length : Int) : Int) := of_decide_eq_true (by first | (with_reducible assumption) | assumption); obtain ⟨go24, co24, eo24, gb24, gl24, cl24, HG24⟩ := Kd.R_form HO178.out (by omega); (first | cases eo24 | (injection eo24 with ea_ en_ ec_; (first | subst ea_ | (injection ea_ with ea_; subst ea_)); subst ec_; clear en_)); have GB24 := Aside0.mk gb24; have GG24 := Aside0.mk HG24; clear gb24 gl24 HG24; obtain ⟨ce24, hcl24, hM24, hcc24, hfr24⟩ := Kd.R_elem HO178.out z29 (t174 : Int) p24 q24; obtain rfl := k29_openM hM24; have hx24_0 : w25.cell? ⟨go24, (t174 : Int).toNat * 2, none⟩ = some (.string ((rd_T29 y176 t174).f0)) := hcc24 0 _ rfl; have hx24_1 : w25.cell? ⟨go24, (t174 : Int).toNat * 2 + 1, none⟩ = some (.int .i64 ((rd_T29 y176 t174).f1)) := hcc24 1 _ rfl; have hf24_0 : w25.frozen? ⟨go24, (t174 : Int).toNat * 2, none⟩ = false := hfr24 0; have hf24_1 : w25.frozen? ⟨go24, (t174 : Int).toNat * 2 + 1, none⟩ = false := hfr24 1; clear hcl24 hcc24 hfr24 hM24; replace p24 := eq_true p24; replace q24 := eq_true q24; have HX26 := Aside0.mk (show Kd.R k29 29 w25 w.heap.size (fun _ => True) (.slice (some ⟨go24, 0, none⟩) y176.length co24) y176 from (kr HO178.out)); obtain ⟨ce26, hcl26, hM26, hcc26, hfr26⟩ := Kd.R_elem HX26.out z29 (t174 : Int) (of_decide_eq_true (by first | (with_reducible assumption) | assumption)) (by have h_ : (t174 : Int) < ((y176.length : Int) : Int) := of_decide_eq_true (by first | (with_reducible assumption) | assumption); first | exact h_ | (have e_ := (Kd.R_reads' HO178.out).1; omega) | simpa using h_); obtain rfl := k29_openM hM26; have HP26 := Kd.R_seg HX26.out (t174 : Int) (of_decide_eq_true (by first | (with_reducible assumption) | assumption)) (by have h_ : (t174 : Int) < ((y176.length : Int) : Int) := of_decide_eq_true (by first | (with_reducible assumption) | assumption); first | exact h_ | (have e_ := (Kd.R_reads' HO178.out).1; omega) | simpa using h_) (seg := [.int .i64 a2]) (j := 1) hcl26 hcc26 (show 2 ≤ 2 from by decide) (x' := (⟨(rd_T29 y176 t174).f0, a2⟩ : S29)) (k29_mkM _ _ _ (⟨(rd_T29 y176 t174).f0, a2⟩ : S29) ) (fun _ hk => hk); have hx26_1 := hcc26 1 _ rfl; (try simp only [show (k29).sz = 2 from rfl, Nat.mul_one, Nat.add_zero] at hx26_1); have hf26_1 := hfr26 1; (try simp only [show (k29).sz = 2 from rfl, Nat.mul_one, Nat.add_zero] at hf26_1); clear hcl26 hcc26 hfr26 hM26) | ((with_reducible refine gate_store (t := 3) (p := 48) rfl ?_); refine store_event (t := 3) (p := 48) (v := ?vo_w27) (w1 := (w25.setCell ⟨go24, (t174 : Int).toNat * 2 + 1, none⟩ (.int .i64 a2))) ?hg ?ho ?hn ?hr ?_; (case ho => rfl); (case hg => rfl); (case hn => rfl); (case hr => first | (go_simp; done) | (go_simp; rfl)); intro w27 hw; have hg : w25.grownBy w27 (some go24) := (by rw [hw]; exact HP26.2); have hp_ : Kd.R k29 29 w27 w.heap.size (fun _ => True) (.slice (some ⟨go24, 0, none⟩) y176.length co24) y179 := (by rw [hw, Ny179.out]; exact HP26.1); clear HP26; have n0_ := Aside0.mk (hp_); have n1_ := Aside0.mk ((by rw [hw]; exact below_set (HB.out) GB24.out : Below w.heap.size w w27)); clear HO178; clear HB; have HO178 := n0_; have HB := n1_; clear n0_ n1_; clear hg hw hp_))
                    go_ret2
                    exact ⟨_, fe, by (with_reducible repeat (first | apply Kd.R_alloc | apply Kd.R_drewN | apply Kd.R_drew)); exact HO178.out, bp HB.out⟩
                  · rw [if_neg c23] at H
                    exact absurd H (by simp)
                · rw [if_neg c22] at H
                  exact absurd H (by simp)
              · rw [if_neg c21] at H
                exact absurd H (by simp)
            · replace c20 := Bool.eq_false_iff.mpr c20
              subst c20
              have H1 : (if (l0.length : Int) ≥ 48 then (if y168.length + l0.length < 5864062014805 then (some ((y168 ++ l0), false)) else (none)) else (if 0 ≤ t174 then (if t174 ≤ (l0.length : Int) then ((some (l0.take (t174 : Int).toNat : List (S29))).bind fun y183 => (if y168.length + y183.length < 5864062014805 then ((some (y168 ++ y183 : List (S29))).bind fun y187 => (if y187.length < 5864062014805 then ((some (y187 ++ [(⟨a1, a2⟩ : S29)] : List (S29))).bind fun y190 => ((some (l0.drop (t174 : Int).toNat : List (S29))).bind fun y193 => (if y190.length + y193.length < 5864062014805 then (some ((y190 ++ y193), true)) else (none)))) else (none))) else (none))) else (none)) else (none))) = some (r1, r2) := by rw [if_neg (show ¬ (false = true) by decide)] at H; exact H
              clear H
              have H := H1
              clear H1
              by_cases c28 : (l0.length : Int) ≥ 48
              · rw [if_pos c28] at H
                have c28b0 : decide (48 ≤ (l0.length : Int)) = true := decide_eq_true c28
                have c28b1 : decide (48 ≤ l0.length) = true := decide_eq_true (by omega)
                clear c28
                by_cases c29 : y168.length + l0.length < 5864062014805
                · rw [if_pos c29] at H
                  have LMc29 := Aside0.mk c29
                  clear c29
                  obtain ⟨y180, hy180⟩ : ∃ y_ : List (S29), y_ = (y168 ++ l0) := ⟨_, rfl⟩
                  replace H : (some (y180, false)) = some (r1, r2) := by first | (rw [hy180]; with_reducible exact H) | (have H2_ := (Option.bind_some _ _).symm.trans H; rw [hy180]; with_reducible exact H2_) | (have H2_ := (Option.bind_some _ _).symm.trans H; with_reducible exact H2_) | with_reducible exact H | (rw [hy180]; exact H) | exact H
                  have Ny180 := Aside0.mk hy180
                  clear hy180
                  simp only [Option.some.injEq, Prod.mk.injEq] at H
                  obtain ⟨rfl, rfl⟩ := H
                  go_wp2_with (first | ((with_reducible refine gate_builtin (b := .append) (xs := #[.tmp 53, .tmp 54]) rfl ?_); at_builtin; refine Kd.R_append_rows k29 (w0 := w) w.heap.size rfl (.tmp 53) (.tmp 54) 23 29 (.agg #[(.string ⟨#[]⟩), (.int .i64 0)]) 24 rfl Try.underlying23 info29 rfl (by decide) (by omega) v169 y168 l0 _ _ _ (fun _ => True) (fun _ => False) rfl rfl ?aO ?aR (fun _ _ h => h) (fun _ h => h.elim) ?aF ?aB ?aS ?aL ?_; (case aR => exact cc (Kd.C_below HR0.out HB.out)); (case aB => exact (bp HB.out)); (case aF => exact (fun _ _ => trivial)); (case aO => exact (kr HO_8.out)); (case aS => exact (below_size (bp HB.out))); (case aL => have := LMc29.out; omega); intro v181 w30 ho hb hg hat; rw [← Ny180.out] at ho; have n0_ := Aside0.mk (hb); have n1_ := Aside0.mk (ho); clear HB; clear HO_8; have HB := n0_; have HO182 := n1_; clear n0_ n1_; clear ho hb hg hat))
                  go_ret2
                  exact ⟨_, fe, by (with_reducible repeat (first | apply Kd.R_alloc | apply Kd.R_drewN | apply Kd.R_drew)); exact HO182.out, bp HB.out⟩
                · rw [if_neg c29] at H
                  exact absurd H (by simp)
              · rw [if_neg c28] at H
                have c28b0 : decide (48 ≤ (l0.length : Int)) = false := decide_eq_false c28
                have c28b1 : decide (48 ≤ l0.length) = false := decide_eq_false (by omega)
                clear c28
                by_cases c31 : 0 ≤ t174
                · rw [if_pos c31] at H
                  have c31b0 := eq_true c31
                  have c31b1 : decide (0 ≤ t174) = true := decide_eq_true c31
                  clear c31
                  by_cases c32 : t174 ≤ (l0.length : Int)
                  · rw [if_pos c32] at H
                    have c32b0 := eq_true c32
                    have c32b1 : decide (t174 ≤ (l0.length : Int)) = true := decide_eq_true c32
                    clear c32
                    obtain ⟨y183, hy183⟩ : ∃ y_ : List (S29), y_ = (l0.take (t174 : Int).toNat) := ⟨_, rfl⟩
                    replace H : (if y168.length + y183.length < 5864062014805 then ((some (y168 ++ y183 : List (S29))).bind fun y187 => (if y187.length < 5864062014805 then ((some (y187 ++ [(⟨a1, a2⟩ : S29)] : List (S29))).bind fun y190 => ((some (l0.drop (t174 : Int).toNat : List (S29))).bind fun y193 => (if y190.length + y193.length < 5864062014805 then (some ((y190 ++ y193), true)) else (none)))) else (none))) else (none)) = some (r1, r2) := by first | (rw [hy183]; with_reducible exact H) | (have H2_ := (Option.bind_some _ _).symm.trans H; rw [hy183]; with_reducible exact H2_) | (have H2_ := (Option.bind_some _ _).symm.trans H; with_reducible exact H2_) | with_reducible exact H | (rw [hy183]; exact H) | exact H
                    have Ny183 := Aside0.mk hy183
                    clear hy183
                    by_cases c33 : y168.length + y183.length < 5864062014805
                    · rw [if_pos c33] at H
                      have LMc33 := Aside0.mk c33
                      clear c33
                      obtain ⟨y187, hy187⟩ : ∃ y_ : List (S29), y_ = (y168 ++ y183) := ⟨_, rfl⟩
                      replace H : (if y187.length < 5864062014805 then ((some (y187 ++ [(⟨a1, a2⟩ : S29)] : List (S29))).bind fun y190 => ((some (l0.drop (t174 : Int).toNat : List (S29))).bind fun y193 => (if y190.length + y193.length < 5864062014805 then (some ((y190 ++ y193), true)) else (none)))) else (none)) = some (r1, r2) := by first | (rw [hy187]; with_reducible exact H) | (have H2_ := (Option.bind_some _ _).symm.trans H; rw [hy187]; with_reducible exact H2_) | (have H2_ := (Option.bind_some _ _).symm.trans H; with_reducible exact H2_) | with_reducible exact H | (rw [hy187]; exact H) | exact H
                      have Ny187 := Aside0.mk hy187
                      clear hy187
                      by_cases c34 : y187.length < 5864062014805
                      · rw [if_pos c34] at H
                        have LMc34 := Aside0.mk c34
                        clear c34
                        obtain ⟨y190, hy190⟩ : ∃ y_ : List (S29), y_ = (y187 ++ [(⟨a1, a2⟩ : S29)]) := ⟨_, rfl⟩
                        replace H : ((some (l0.drop (t174 : Int).toNat : List (S29))).bind fun y193 => (if y190.length + y193.length < 5864062014805 then (some ((y190 ++ y193), true)) else (none))) = some (r1, r2) := by first | (rw [hy190]; with_reducible exact H) | (have H2_ := (Option.bind_some _ _).symm.trans H; rw [hy190]; with_reducible exact H2_) | (have H2_ := (Option.bind_some _ _).symm.trans H; with_reducible exact H2_) | with_reducible exact H | (rw [hy190]; exact H) | exact H
                        have Ny190 := Aside0.mk hy190
                        clear hy190
                        have c35b0 := eq_true (of_decide_eq_true (by first | (with_reducible assumption) | assumption) : 0 ≤ t174)
                        have c36b0 := eq_true (of_decide_eq_true (by first | (with_reducible assumption) | assumption) : t174 ≤ (l0.length : Int))
                        obtain ⟨y193, hy193⟩ : ∃ y_ : List (S29), y_ = (l0.drop (t174 : Int).toNat) := ⟨_, rfl⟩
                        replace H : (if y190.length + y193.length < 5864062014805 then (some ((y190 ++ y193), true)) else (none)) = some (r1, r2) := by first | (rw [hy193]; with_reducible exact H) | (have H2_ := (Option.bind_some _ _).symm.trans H; rw [hy193]; with_reducible exact H2_) | (have H2_ := (Option.bind_some _ _).symm.trans H; with_reducible exact H2_) | with_reducible exact H | (rw [hy193]; exact H) | exact H
                        have Ny193 := Aside0.mk hy193
                        clear hy193
                        by_cases c37 : y190.length + y193.length < 5864062014805
                        · rw [if_pos c37] at H
                          have LMc37 := Aside0.mk c37
                          clear c37
                          obtain ⟨y197, hy197⟩ : ∃ y_ : List (S29), y_ = (y190 ++ y193) := ⟨_, rfl⟩
                          replace H : (some (y197, true)) = some (r1, r2) := by first | (rw [hy197]; with_reducible exact H) | (have H2_ := (Option.bind_some _ _).symm.trans H; rw [hy197]; with_reducible exact H2_) | (have H2_ := (Option.bind_some _ _).symm.trans H; with_reducible exact H2_) | with_reducible exact H | (rw [hy197]; exact H) | exact H
                          have Ny197 := Aside0.mk hy197
                          clear hy197
                          simp only [Option.some.injEq, Prod.mk.injEq] at H
                          obtain ⟨rfl, rfl⟩ := H
                          have q38 : (t174 : Int) ≤ ((l0.length : Int) : Int) := of_decide_eq_true (by first | (with_reducible assumption) | assumption)
                          obtain ⟨i038, hi038, _, hsz38, _⟩ := info_parts info29
                          have hroom38 : l0.length ≤ c0 := HC0.out
                          have hC38 : Kd.C k29 _ A0 l0.length l0 := HR0.out
                          have hcut38 := cut_to (P := Try.prog) 23 29 .i64 Try.underlying23 hi038 A0 l0.length c0 t174 (of_decide_eq_true (by first | (with_reducible assumption) | assumption)) q38 hroom38
                          have hr38 := Kd.C_take (m := (t174 : Int).toNat) hC38 (by omega)
                          have hy38 : y183.length = (t174 : Int).toNat := (by rw [Ny183.out, List.length_take]; omega)
                          rw [← Ny183.out] at hr38
                          rw [← hy38] at hcut38
                          have HR186 := Aside0.mk hr38
                          have HC186 := Aside0.mk (show y183.length ≤ c0 from by omega)
                          clear hr38 hC38 hroom38 hi038 hsz38
                          have KY38 := Aside0.mk hy38
                          clear hy38
                          replace q38 := eq_true q38
                          go_wp2_with (first | ((with_reducible refine gate_builtin (b := .append) (xs := #[.tmp 56, .tmp 59]) rfl ?_); at_builtin; refine Kd.R_append_rows k29 (w0 := w) w.heap.size rfl (.tmp 56) (.tmp 59) 23 29 (.agg #[(.string ⟨#[]⟩), (.int .i64 0)]) 24 rfl Try.underlying23 info29 rfl (by decide) (by omega) v169 y168 y183 _ _ _ (fun _ => True) (fun _ => False) rfl rfl ?aO ?aR (fun _ _ h => h) (fun _ h => h.elim) ?aF ?aB ?aS ?aL ?_; (case aR => exact cc (Kd.C_below HR186.out HB.out)); (case aB => exact (bp HB.out)); (case aF => exact (fun _ _ => trivial)); (case aO => exact (kr HO_8.out)); (case aS => exact (below_size (bp HB.out))); (case aL => have := LMc33.out; omega); intro v188 w39 ho hb hg hat; rw [← Ny187.out] at ho; have n0_ := Aside0.mk (hb); have n1_ := Aside0.mk (ho); clear HB; clear HO_8; have HB := n0_; have HO189 := n1_; clear n0_ n1_; clear ho hb hg hat) | ((with_reducible refine gate_builtin (b := .append) (xs := #[.tmp 61, .tmp 65]) rfl ?_); at_builtin; refine Kd.R_append k29 (w0 := w) w.heap.size rfl (.tmp 61) (.tmp 65) 23 29 (.agg #[(.string ⟨#[]⟩), (.int .i64 0)]) 24 rfl Try.underlying23 info29 rfl (by decide) (by omega) v188 y187 (⟨a1, a2⟩ : S29) [.string a1, .int .i64 a2] (fun _ => True) (fun _ => False) rfl rfl ?aP (fun _ hk => hk.elim) ?aF ?aO ?aB ?aS ?aL ?_; (case aP => exact k29_mkM _ _ _ (⟨a1, a2⟩ : S29)); (case aB => exact (bp HB.out)); (case aF => exact (fun _ _ => trivial)); (case aO => exact (kr HO189.out)); (case aS => exact (below_size (bp HB.out))); (case aL => have := LMc34.out; omega); intro v191 w40 ho hb hg hat; rw [← Ny190.out] at ho; have n0_ := Aside0.mk (hb); have n1_ := Aside0.mk (ho); clear HB; clear HO189; have HB := n0_; have HO192 := n1_; clear n0_ n1_; clear ho hb hg hat; have q41 : (t174 : Int) ≤ ((l0.length : Int) : Int) := of_decide_eq_true (by first | (with_reducible assumption) | assumption); obtain ⟨i041, hi041, _, hsz41, _⟩ := info_parts info29; have hroom41 : l0.length ≤ c0 := HC0.out; have hC41 : Kd.C k29 _ A0 l0.length l0 := HR0.out; have q041 : (0 : Int) ≤ (t174 : Int) := of_decide_eq_true (by first | (with_reducible assumption) | assumption); have hcut41 := cut_from (P := Try.prog) 23 29 .i64 Try.underlying23 hi041 2 hsz41 A0 l0.length c0 t174 q041 q41; have hr41 := Kd.C_drop (m := (t174 : Int).toNat) (c := c0) hC41 (by omega) hroom41; obtain ⟨A41, hA41⟩ : ∃ A_, A_ = (if c0 = (t174 : Int).toNat then A0 else (A0 : Option Addr).map (·.add ((t174 : Int).toNat * 2))) := ⟨_, rfl⟩; obtain ⟨c41, hc41⟩ : ∃ c_, c_ = c0 - (t174 : Int).toNat := ⟨_, rfl⟩; have hy41 : y193.length = l0.length - (t174 : Int).toNat := (by rw [Ny193.out, List.length_drop] <;> omega); rw [show (l0).drop (t174 : Int).toNat = y193 from Ny193.out.symm] at hr41; replace hr41 : Kd.C k29 _ A41 y193.length y193 := (by rw [hA41]; exact hr41); rw [← hy41, ← hA41, ← hc41] at hcut41; have HR196 := Aside0.mk hr41; have HC196 := Aside0.mk (show y193.length ≤ c41 from by rw [hy41, hc41]; exact Nat.sub_le_sub_right hroom41 _); clear hr41 hC41 hroom41 hi041 hsz41 hc41; have KY41 := Aside0.mk hy41; have KA41 := Aside0.mk hA41; clear hy41 hA41; replace q41 := eq_true q41) | ((with_reducible refine gate_builtin (b := .append) (xs := #[.tmp 67, .tmp 70]) rfl ?_); at_builtin; refine Kd.R_append_rows k29 (w0 := w) w.heap.size rfl (.tmp 67) (.tmp 70) 23 29 (.agg #[(.string ⟨#[]⟩), (.int .i64 0)]) 24 rfl Try.underlying23 info29 rfl (by decide) (by omega) v191 y190 y193 _ _ _ (fun _ => True) (fun _ => False) rfl rfl ?aO ?aR (fun _ _ h => h) (fun _ h => h.elim) ?aF ?aB ?aS ?aL ?_; (case aR => exact cc (Kd.C_below HR196.out HB.out)); (case aB => exact (bp HB.out)); (case aF => exact (fun _ _ => trivial)); (case aO => exact (kr HO192.out)); (case aS => exact (below_size (bp HB.out))); (case aL => have := LMc37.out; omega); intro v198 w42 ho hb hg hat; rw [← Ny197.out] at ho; have n0_ := Aside0.mk (hb); have n1_ := Aside0.mk (ho); clear HB; clear HO192; have HB := n0_; have HO199 := n1_; clear n0_ n1_; clear ho hb hg hat))
                          go_ret2
                          exact ⟨_, fe, by (with_reducible repeat (first | apply Kd.R_alloc | apply Kd.R_drewN | apply Kd.R_drew)); exact HO199.out, bp HB.out⟩
                        · rw [if_neg c37] at H
                          exact absurd H (by simp)
                      · rw [if_neg c34] at H
                        exact absurd H (by simp)
                    · rw [if_neg c33] at H
                      exact absurd H (by simp)
                  · rw [if_neg c32] at H
                    exact absurd H (by simp)
                · rw [if_neg c31] at H
                  exact absurd H (by simp)

/-! ### spec_l29one: function 153 -/
def spec_l29one.f (k : Nat) (l0 : List (S29)) (a1_0 : Int) (a1_1 : Int) (a1_2 : Int) (a1_3 : ByteArray) (a1_4 : Int) (a1_5 : Int) (a1_6 : Int) : Option ((List (S29)) × Bool) := (spec_PairGet.f k l0 a1_3).bind fun t201 => (if a1_6 = (-2) then (some (l0, true)) else (if a1_6 = t201 then (if a1_2 = 3 then ((spec_PairDrop.f k l0 a1_3).bind fun bt202 => (some (bt202.1, true))) else (if a1_2 = 4 then (if a1_5 = t201 then ((spec_PairPut.f k l0 a1_3 a1_4).bind fun bt206 => (some (bt206.1, bt206.2))) else (some (l0, true))) else (if a1_2 = 1 then (some (l0, true)) else ((spec_PairPut.f k l0 a1_3 a1_4).bind fun bt210 => (some (bt210.1, bt210.2)))))) else (some (l0, false))))
theorem spec_l29one.mono : ∀ a0 a1 a2 a3 a4 a5 a6 a7 k, LeO (spec_l29one.f k a0 a1 a2 a3 a4 a5 a6 a7) (spec_l29one.f (k + 1) a0 a1 a2 a3 a4 a5 a6 a7) := by
  intro a0 a1 a2 a3 a4 a5 a6 a7 k
  unfold spec_l29one.f
  repeat' first
      | (with_reducible exact spec_PairDrop.mono _ _ _)
      | (with_reducible exact spec_PairGet.mono _ _ _)
      | (with_reducible exact spec_PairPut.mono _ _ _ _)
      | (with_reducible exact LeO.refl _)
      | (with_reducible exact LeO.none _)
      | (with_reducible refine LeO.ite ?_ ?_)
      | (with_reducible refine LeO.bind ?_ (fun _ => ?_))
      | exact spec_PairDrop.mono _ _ _
      | exact spec_PairGet.mono _ _ _
      | exact spec_PairPut.mono _ _ _ _
      | exact LeO.none _
      | refine LeO.ite ?_ ?_
      | refine LeO.bind ?_ (fun _ => ?_)
theorem spec_l29one.s0 {P0 Q : Prop} (B0 : P0) (h : P0 → Q := by (intro b0_; repeat (first | (with_reducible first | exact b0_ | apply Kept.alloc | apply Kept.drewN | apply Kept.drew) | exact b0_))) : Q := h B0
theorem spec_l29one.s1 {P0 Q : Prop} (B0 : P0) (h : P0 → Q := by (intro b0_; repeat (first | exact (Kd.R_reads' b0_).2.2 | (with_reducible refine Kd.C_alloc ?_ _) | (with_reducible refine Kd.C_drewN ?_ _) | (with_reducible refine Kd.C_drew ?_)))) : Q := h B0
theorem spec_l29one.s2 {P0 P1 Q : Prop} (B0 : P0) (B1 : P1) (h : P0 → P1 → Q := by (intro b0_ b1_; repeat (first | (with_reducible first | exact b0_ | apply Kept.alloc | apply Kept.drewN | apply Kept.drew | refine Kept.setCell ?_ (.inr b1_) _) | exact b0_))) : Q := h B0 B1
set_option maxHeartbeats 8000000 in
set_option maxRecDepth 100000 in
theorem spec_l29one.calls (k : Nat) (P0_ : Nat → Prop) (u9000_ : Value) (l0 : List (S29)) (a1_0 : Int) (a1_1 : Int) (a1_2 : Int) (a1_3 : ByteArray) (a1_4 : Int) (a1_5 : Int) (a1_6 : Int) (r1 : List (S29)) (r2 : Bool) (w0 w : World) (hB : Below w0.heap.size w0 w) (ho0 : Kd.R k29 29 w w0.heap.size P0_ u9000_ l0) (h : spec_l29one.f k l0 a1_0 a1_1 a1_2 a1_3 a1_4 a1_5 a1_6 = some (r1, r2)) :
    Calls Try.prog 153 #[u9000_, .agg #[.int .i64 a1_0, .int .i64 a1_1, .int .i64 a1_2, .string a1_3, .int .i64 a1_4, .int .i64 a1_5, .int .i64 a1_6]] w fun e w' => ∃ v0_ : Value, e = .returned (.tuple #[v0_, .bool r2]) ∧ Kd.R k29 29 w' w0.heap.size (fun k_ => (P0_ k_ ∨ w.heap.size ≤ k_)) v0_ r1 ∧ Below w0.heap.size w0 w' ∧ Kept w w' (fun k_ => P0_ k_) := by
  have hu140 := Try.underlying140
  have HO0 := Aside0.mk (show Kd.R k29 29 w w0.heap.size (fun k_ => (P0_ k_ ∨ w.heap.size ≤ k_)) u9000_ l0 from Kd.R_mono ho0 (fun k_ hk => (.inl hk)))
  have HK := Aside0.mk (Kept.refl w (fun k_ => P0_ k_))
  have HW0 := Aside0.mk hB.size
  have HB := Aside0.mk hB
  clear hB
  have H : ((spec_PairGet.f k l0 a1_3).bind fun t201 => (if a1_6 = (-2) then (some (l0, true)) else (if a1_6 = t201 then (if a1_2 = 3 then ((spec_PairDrop.f k l0 a1_3).bind fun bt202 => (some (bt202.1, true))) else (if a1_2 = 4 then (if a1_5 = t201 then ((spec_PairPut.f k l0 a1_3 a1_4).bind fun bt206 => (some (bt206.1, bt206.2))) else (some (l0, true))) else (if a1_2 = 1 then (some (l0, true)) else ((spec_PairPut.f k l0 a1_3 a1_4).bind fun bt210 => (some (bt210.1, bt210.2)))))) else (some (l0, false))))) = some (r1, r2) := h
  clear h
  replace H := Option.bind_eq_some_iff.mp H
  obtain ⟨t201, A30, H⟩ := H
  replace H : (if a1_6 = (-2) then (some (l0, true)) else (if a1_6 = t201 then (if a1_2 = 3 then ((spec_PairDrop.f k l0 a1_3).bind fun bt202 => (some (bt202.1, true))) else (if a1_2 = 4 then (if a1_5 = t201 then ((spec_PairPut.f k l0 a1_3 a1_4).bind fun bt206 => (some (bt206.1, bt206.2))) else (some (l0, true))) else (if a1_2 = 1 then (some (l0, true)) else ((spec_PairPut.f k l0 a1_3 a1_4).bind fun bt210 => (some (bt210.1, bt210.2)))))) else (some (l0, false)))) = some (r1, r2) := H
  have A3 := Aside0.mk A30
  clear A30
  by_cases c4 : a1_6 = (-2)
  · rw [if_pos c4] at H
    have c4b0 : (a1_6 == (-2)) = true := beq_iff_eq.mpr c4
    have c4b1 : (a1_6 != (-2)) = false := bne_eq_false_iff_eq.mpr c4
    clear c4
    simp only [Option.some.injEq, Prod.mk.injEq] at H
    obtain ⟨rfl, rfl⟩ := H
    go_enter Try.func153, Try.ntmps153
    go_wp2_with (first | ((with_reducible refine gate_dst (N := 3) rfl ?_); refine bxe (N := 3) (cs := #[.int .i64 a1_0, .int .i64 a1_1, .int .i64 a1_2, .string a1_3, .int .i64 a1_4, .int .i64 a1_5, .int .i64 a1_6]) (t := 140) ?_; intro gb200 hg w5 hbox hb; have n0_ := Aside0.mk (Kd.R_below (kr HO0.out) hb); have n1_ := Aside0.mk (Kept.below (S := (fun k_ => P0_ k_)) (spec_l29one.s0 HK.out) hb); have n2_ := an0 HB hb; have n3_ := Aside0.mk (hbox); have n4_ := Aside0.mk ((by rw [hg]; exact (by first | exact HK.out.1 | exact (show Kept w _ (fun k_ => P0_ k_) from spec_l29one.s0 HK.out).1) : w.heap.size ≤ gb200)); have n5_ := Aside0.mk ((by rw [hg]; exact (below_size (bp HB.out)) : w0.heap.size ≤ gb200)); clear HO0; clear HK; clear HB; have HO0 := n0_; have HK := n1_; have HB := n2_; have BK200 := n3_; have GW200 := n4_; have GE200 := n5_; clear n0_ n1_ n2_ n3_ n4_ n5_; clear hb hbox hg; obtain ⟨hcz6_0, hcz6_1, hcz6_2, hcz6_3, hcz6_4, hcz6_5, hcz6_6, hfz6_0, hfz6_1, hfz6_2, hfz6_3, hfz6_4, hfz6_5, hfz6_6⟩ := cl7 BK200; obtain ⟨Ao7, co7, eo7⟩ := Kd.R_slice HO0.out; subst eo7) | ((with_reducible refine gate_callee (f := 91) rfl ?_); refine gsl (some 14) rfl Try.func91 #[.slice Ao7 l0.length co7, .string a1_3] rfl ?_; (with_reducible refine (spec_PairGet.calls k _ _ l0 a1_3 t201 _ ?side1 ?side2 A3.out).mono ?_); (case side1 => exact spec_l29one.s1 HO0.out); (case side2 => exact (Kd.R_reads' HO0.out).2.1); rintro e w8 ⟨rfl, hb⟩; refine ⟨_, rfl, ?_⟩; have n0_ := Aside0.mk (Kd.R_below (kr HO0.out) hb); have n1_ := an1 BK200 hb; have n2_ := Aside0.mk (Kept.below (S := (fun k_ => P0_ k_)) (spec_l29one.s2 HK.out GW200.out) hb); have n3_ := an0 HB hb; clear HO0; clear BK200; clear HK; clear HB; have HO0 := n0_; have BK200 := n1_; have HK := n2_; have HB := n3_; clear n0_ n1_ n2_ n3_; (try clear hb); (try clear hb2); (try clear hk); (try clear hi); obtain ⟨hcz9_0, hcz9_1, hcz9_2, hcz9_3, hcz9_4, hcz9_5, hcz9_6, hfz9_0, hfz9_1, hfz9_2, hfz9_3, hfz9_4, hfz9_5, hfz9_6⟩ := cl7 BK200))
    go_ret2
    exact ⟨_, fe, by (with_reducible repeat (first | apply Kd.R_alloc | apply Kd.R_drewN | apply Kd.R_drew)); exact HO0.out, bp HB.out, spec_l29one.s2 HK.out GW200.out⟩
  · rw [if_neg c4] at H
    have c4b0 : (a1_6 == (-2)) = false := beq_eq_false_iff_ne.mpr c4
    have c4b1 : (a1_6 != (-2)) = true := bne_iff_ne.mpr c4
    by_cases c10 : a1_6 = t201
    · rw [if_pos c10] at H
      have c10b0 : (a1_6 == t201) = true := beq_iff_eq.mpr c10
      have c10b1 : (a1_6 != t201) = false := bne_eq_false_iff_eq.mpr c10
      clear c10
      by_cases c11 : a1_2 = 3
      · rw [if_pos c11] at H
        have c11b0 : (a1_2 == 3) = true := beq_iff_eq.mpr c11
        have c11b1 : (a1_2 != 3) = false := bne_eq_false_iff_eq.mpr c11
        clear c11
        replace H := Option.bind_eq_some_iff.mp H
        obtain ⟨⟨t202, t203⟩, A120, H⟩ := H
        replace H : (some (t202, true)) = some (r1, r2) := H
        have A12 := Aside0.mk A120
        clear A120
        simp only [Option.some.injEq, Prod.mk.injEq] at H
        obtain ⟨rfl, rfl⟩ := H
        go_enter Try.func153, Try.ntmps153
        go_wp2_with (first | ((with_reducible refine gate_dst (N := 3) rfl ?_); refine bxe (N := 3) (cs := #[.int .i64 a1_0, .int .i64 a1_1, .int .i64 a1_2, .string a1_3, .int .i64 a1_4, .int .i64 a1_5, .int .i64 a1_6]) (t := 140) ?_; intro gb200 hg w13 hbox hb; have n0_ := Aside0.mk (Kd.R_below (kr HO0.out) hb); have n1_ := Aside0.mk (Kept.below (S := (fun k_ => P0_ k_)) (spec_l29one.s0 HK.out) hb); have n2_ := an0 HB hb; have n3_ := Aside0.mk (hbox); have n4_ := Aside0.mk ((by rw [hg]; exact (by first | exact HK.out.1 | exact (show Kept w _ (fun k_ => P0_ k_) from spec_l29one.s0 HK.out).1) : w.heap.size ≤ gb200)); have n5_ := Aside0.mk ((by rw [hg]; exact (below_size (bp HB.out)) : w0.heap.size ≤ gb200)); clear HO0; clear HK; clear HB; have HO0 := n0_; have HK := n1_; have HB := n2_; have BK200 := n3_; have GW200 := n4_; have GE200 := n5_; clear n0_ n1_ n2_ n3_ n4_ n5_; clear hb hbox hg; obtain ⟨hcz14_0, hcz14_1, hcz14_2, hcz14_3, hcz14_4, hcz14_5, hcz14_6, hfz14_0, hfz14_1, hfz14_2, hfz14_3, hfz14_4, hfz14_5, hfz14_6⟩ := cl7 BK200; obtain ⟨Ao15, co15, eo15⟩ := Kd.R_slice HO0.out; subst eo15) | ((with_reducible refine gate_callee (f := 91) rfl ?_); refine gsl (some 14) rfl Try.func91 #[.slice Ao15 l0.length co15, .string a1_3] rfl ?_; (with_reducible refine (spec_PairGet.calls k _ _ l0 a1_3 t201 _ ?side1 ?side2 A3.out).mono ?_); (case side1 => exact spec_l29one.s1 HO0.out); (case side2 => exact (Kd.R_reads' HO0.out).2.1); rintro e w16 ⟨rfl, hb⟩; refine ⟨_, rfl, ?_⟩; have n0_ := Aside0.mk (Kd.R_below (kr HO0.out) hb); have n1_ := an1 BK200 hb; have n2_ := Aside0.mk (Kept.below (S := (fun k_ => P0_ k_)) (spec_l29one.s2 HK.out GW200.out) hb); have n3_ := an0 HB hb; clear HO0; clear BK200; clear HK; clear HB; have HO0 := n0_; have BK200 := n1_; have HK := n2_; have HB := n3_; clear n0_ n1_ n2_ n3_; (try clear hb); (try clear hb2); (try clear hk); (try clear hi); obtain ⟨hcz17_0, hcz17_1, hcz17_2, hcz17_3, hcz17_4, hcz17_5, hcz17_6, hfz17_0, hfz17_1, hfz17_2, hfz17_3, hfz17_4, hfz17_5, hfz17_6⟩ := cl7 BK200) | ((with_reducible refine gate_callee (f := 92) rfl ?_); refine gsl (some 36) rfl Try.func92 #[.slice Ao15 l0.length co15, .string a1_3] rfl ?_; (with_reducible refine (spec_PairDrop.calls k _ _ l0 a1_3 t202 t203 _ ?side1 ?side2 A12.out).mono ?_); (case side1 => exact spec_l29one.s1 HO0.out); (case side2 => exact (Kd.R_reads' HO0.out).2.1); rintro e w18 ⟨v204, rfl, ho0, hb⟩; refine ⟨_, rfl, ?_⟩; have n0_ := Aside0.mk (Kd.R_elder' (kr HO0.out) (Kd.R_base ho0) hb); have n1_ := Aside0.mk (Kd.R_lower (Kd.R_new' (Kd.R_newM (M := fun k_ => (P0_ k_ ∨ w.heap.size ≤ k_)) ho0 (by first | exact HK.out.1 | exact (show Kept w _ (fun k_ => P0_ k_) from spec_l29one.s2 HK.out GW200.out).1) (fun k_ h_ => .inr h_)) (Kd.R_lt (kr HO0.out))) (below_size (bp HB.out))); have n2_ := an1 BK200 hb; have n3_ := Aside0.mk (Kept.below (S := (fun k_ => P0_ k_)) (spec_l29one.s2 HK.out GW200.out) hb); have n4_ := an0 HB hb; clear HO0; clear BK200; clear HK; clear HB; have HO0 := n0_; have HO205 := n1_; have BK200 := n2_; have HK := n3_; have HB := n4_; clear n0_ n1_ n2_ n3_ n4_; (try clear hb); (try clear hb2); (try clear hk); (try clear hi); (try clear ho0)))
        go_ret2
        exact ⟨_, fe, by (with_reducible repeat (first | apply Kd.R_alloc | apply Kd.R_drewN | apply Kd.R_drew)); exact Kd.R_mono HO205.out (fun _ hk => hk.1.1), bp HB.out, spec_l29one.s2 HK.out GW200.out⟩
      · rw [if_neg c11] at H
        have c11b0 : (a1_2 == 3) = false := beq_eq_false_iff_ne.mpr c11
        have c11b1 : (a1_2 != 3) = true := bne_iff_ne.mpr c11
        by_cases c19 : a1_2 = 4
        · rw [if_pos c19] at H
          have c19b0 : (a1_2 == 4) = true := beq_iff_eq.mpr c19
          have c19b1 : (a1_2 != 4) = false := bne_eq_false_iff_eq.mpr c19
          clear c19
          by_cases c20 : a1_5 = t201
          · rw [if_pos c20] at H
            have c20b0 : (a1_5 == t201) = true := beq_iff_eq.mpr c20
            have c20b1 : (a1_5 != t201) = false := bne_eq_false_iff_eq.mpr c20
            clear c20
            replace H := Option.bind_eq_some_iff.mp H
            obtain ⟨⟨t206, t207⟩, A210, H⟩ := H
            replace H : (some (t206, t207)) = some (r1, r2) := H
            have A21 := Aside0.mk A210
            clear A210
            simp only [Option.some.injEq, Prod.mk.injEq] at H
            obtain ⟨rfl, rfl⟩ := H
            go_enter Try.func153, Try.ntmps153
            go_wp2_with (first | ((with_reducible refine gate_dst (N := 3) rfl ?_); refine bxe (N := 3) (cs := #[.int .i64 a1_0, .int .i64 a1_1, .int .i64 a1_2, .string a1_3, .int .i64 a1_4, .int .i64 a1_5, .int .i64 a1_6]) (t := 140) ?_; intro gb200 hg w22 hbox hb; have n0_ := Aside0.mk (Kd.R_below (kr HO0.out) hb); have n1_ := Aside0.mk (Kept.below (S := (fun k_ => P0_ k_)) (spec_l29one.s0 HK.out) hb); have n2_ := an0 HB hb; have n3_ := Aside0.mk (hbox); have n4_ := Aside0.mk ((by rw [hg]; exact (by first | exact HK.out.1 | exact (show Kept w _ (fun k_ => P0_ k_) from spec_l29one.s0 HK.out).1) : w.heap.size ≤ gb200)); have n5_ := Aside0.mk ((by rw [hg]; exact (below_size (bp HB.out)) : w0.heap.size ≤ gb200)); clear HO0; clear HK; clear HB; have HO0 := n0_; have HK := n1_; have HB := n2_; have BK200 := n3_; have GW200 := n4_; have GE200 := n5_; clear n0_ n1_ n2_ n3_ n4_ n5_; clear hb hbox hg; obtain ⟨hcz23_0, hcz23_1, hcz23_2, hcz23_3, hcz23_4, hcz23_5, hcz23_6, hfz23_0, hfz23_1, hfz23_2, hfz23_3, hfz23_4, hfz23_5, hfz23_6⟩ := cl7 BK200; obtain ⟨Ao24, co24, eo24⟩ := Kd.R_slice HO0.out; subst eo24) | ((with_reducible refine gate_callee (f := 91) rfl ?_); refine gsl (some 14) rfl Try.func91 #[.slice Ao24 l0.length co24, .string a1_3] rfl ?_; (with_reducible refine (spec_PairGet.calls k _ _ l0 a1_3 t201 _ ?side1 ?side2 A3.out).mono ?_); (case side1 => exact spec_l29one.s1 HO0.out); (case side2 => exact (Kd.R_reads' HO0.out).2.1); rintro e w25 ⟨rfl, hb⟩; refine ⟨_, rfl, ?_⟩; have n0_ := Aside0.mk (Kd.R_below (kr HO0.out) hb); have n1_ := an1 BK200 hb; have n2_ := Aside0.mk (Kept.below (S := (fun k_ => P0_ k_)) (spec_l29one.s2 HK.out GW200.out) hb); have n3_ := an0 HB hb; clear HO0; clear BK200; clear HK; clear HB; have HO0 := n0_; have BK200 := n1_; have HK := n2_; have HB := n3_; clear n0_ n1_ n2_ n3_; (try clear hb); (try clear hb2); (try clear hk); (try clear hi); obtain ⟨hcz26_0, hcz26_1, hcz26_2, hcz26_3, hcz26_4, hcz26_5, hcz26_6, hfz26_0, hfz26_1, hfz26_2, hfz26_3, hfz26_4, hfz26_5, hfz26_6⟩ := cl7 BK200) | ((with_reducible refine gate_callee (f := 93) rfl ?_); refine gsl (some 61) rfl Try.func93 #[.slice Ao24 l0.length co24, .string a1_3, .int .i64 a1_4] rfl ?_; (with_reducible refine (spec_PairPut.calls k _ _ l0 a1_3 a1_4 t206 t207 _ ?side1 ?side2 A21.out).mono ?_); (case side1 => exact spec_l29one.s1 HO0.out); (case side2 => exact (Kd.R_reads' HO0.out).2.1); rintro e w27 ⟨v208, rfl, ho0, hb⟩; refine ⟨_, rfl, ?_⟩; have n0_ := Aside0.mk (Kd.R_elder' (kr HO0.out) (Kd.R_base ho0) hb); have n1_ := Aside0.mk (Kd.R_lower (Kd.R_new' (Kd.R_newM (M := fun k_ => (P0_ k_ ∨ w.heap.size ≤ k_)) ho0 (by first | exact HK.out.1 | exact (show Kept w _ (fun k_ => P0_ k_) from spec_l29one.s2 HK.out GW200.out).1) (fun k_ h_ => .inr h_)) (Kd.R_lt (kr HO0.out))) (below_size (bp HB.out))); have n2_ := an1 BK200 hb; have n3_ := Aside0.mk (Kept.below (S := (fun k_ => P0_ k_)) (spec_l29one.s2 HK.out GW200.out) hb); have n4_ := an0 HB hb; clear HO0; clear BK200; clear HK; clear HB; have HO0 := n0_; have HO209 := n1_; have BK200 := n2_; have HK := n3_; have HB := n4_; clear n0_ n1_ n2_ n3_ n4_; (try clear hb); (try clear hb2); (try clear hk); (try clear hi); (try clear ho0)))
            go_ret2
            exact ⟨_, fe, by (with_reducible repeat (first | apply Kd.R_alloc | apply Kd.R_drewN | apply Kd.R_drew)); exact Kd.R_mono HO209.out (fun _ hk => hk.1.1), bp HB.out, spec_l29one.s2 HK.out GW200.out⟩
          · rw [if_neg c20] at H
            have c20b0 : (a1_5 == t201) = false := beq_eq_false_iff_ne.mpr c20
            have c20b1 : (a1_5 != t201) = true := bne_iff_ne.mpr c20
            simp only [Option.some.injEq, Prod.mk.injEq] at H
            obtain ⟨rfl, rfl⟩ := H
            go_enter Try.func153, Try.ntmps153
            go_wp2_with (first | ((with_reducible refine gate_dst (N := 3) rfl ?_); refine bxe (N := 3) (cs := #[.int .i64 a1_0, .int .i64 a1_1, .int .i64 a1_2, .string a1_3, .int .i64 a1_4, .int .i64 a1_5, .int .i64 a1_6]) (t := 140) ?_; intro gb200 hg w28 hbox hb; have n0_ := Aside0.mk (Kd.R_below (kr HO0.out) hb); have n1_ := Aside0.mk (Kept.below (S := (fun k_ => P0_ k_)) (spec_l29one.s0 HK.out) hb); have n2_ := an0 HB hb; have n3_ := Aside0.mk (hbox); have n4_ := Aside0.mk ((by rw [hg]; exact (by first | exact HK.out.1 | exact (show Kept w _ (fun k_ => P0_ k_) from spec_l29one.s0 HK.out).1) : w.heap.size ≤ gb200)); have n5_ := Aside0.mk ((by rw [hg]; exact (below_size (bp HB.out)) : w0.heap.size ≤ gb200)); clear HO0; clear HK; clear HB; have HO0 := n0_; have HK := n1_; have HB := n2_; have BK200 := n3_; have GW200 := n4_; have GE200 := n5_; clear n0_ n1_ n2_ n3_ n4_ n5_; clear hb hbox hg; obtain ⟨hcz29_0, hcz29_1, hcz29_2, hcz29_3, hcz29_4, hcz29_5, hcz29_6, hfz29_0, hfz29_1, hfz29_2, hfz29_3, hfz29_4, hfz29_5, hfz29_6⟩ := cl7 BK200; obtain ⟨Ao30, co30, eo30⟩ := Kd.R_slice HO0.out; subst eo30) | ((with_reducible refine gate_callee (f := 91) rfl ?_); refine gsl (some 14) rfl Try.func91 #[.slice Ao30 l0.length co30, .string a1_3] rfl ?_; (with_reducible refine (spec_PairGet.calls k _ _ l0 a1_3 t201 _ ?side1 ?side2 A3.out).mono ?_); (case side1 => exact spec_l29one.s1 HO0.out); (case side2 => exact (Kd.R_reads' HO0.out).2.1); rintro e w31 ⟨rfl, hb⟩; refine ⟨_, rfl, ?_⟩; have n0_ := Aside0.mk (Kd.R_below (kr HO0.out) hb); have n1_ := an1 BK200 hb; have n2_ := Aside0.mk (Kept.below (S := (fun k_ => P0_ k_)) (spec_l29one.s2 HK.out GW200.out) hb); have n3_ := an0 HB hb; clear HO0; clear BK200; clear HK; clear HB; have HO0 := n0_; have BK200 := n1_; have HK := n2_; have HB := n3_; clear n0_ n1_ n2_ n3_; (try clear hb); (try clear hb2); (try clear hk); (try clear hi); obtain ⟨hcz32_0, hcz32_1, hcz32_2, hcz32_3, hcz32_4, hcz32_5, hcz32_6, hfz32_0, hfz32_1, hfz32_2, hfz32_3, hfz32_4, hfz32_5, hfz32_6⟩ := cl7 BK200))
            go_ret2
            exact ⟨_, fe, by (with_reducible repeat (first | apply Kd.R_alloc | apply Kd.R_drewN | apply Kd.R_drew)); exact HO0.out, bp HB.out, spec_l29one.s2 HK.out GW200.out⟩
        · rw [if_neg c19] at H
          have c19b0 : (a1_2 == 4) = false := beq_eq_false_iff_ne.mpr c19
          have c19b1 : (a1_2 != 4) = true := bne_iff_ne.mpr c19
          by_cases c33 : a1_2 = 1
          · rw [if_pos c33] at H
            have c33b0 : (a1_2 == 1) = true := beq_iff_eq.mpr c33
            have c33b1 : (a1_2 != 1) = false := bne_eq_false_iff_eq.mpr c33
            clear c33
            simp only [Option.some.injEq, Prod.mk.injEq] at H
            obtain ⟨rfl, rfl⟩ := H
            go_enter Try.func153, Try.ntmps153
            go_wp2_with (first | ((with_reducible refine gate_dst (N := 3) rfl ?_); refine bxe (N := 3) (cs := #[.int .i64 a1_0, .int .i64 a1_1, .int .i64 a1_2, .string a1_3, .int .i64 a1_4, .int .i64 a1_5, .int .i64 a1_6]) (t := 140) ?_; intro gb200 hg w34 hbox hb; have n0_ := Aside0.mk (Kd.R_below (kr HO0.out) hb); have n1_ := Aside0.mk (Kept.below (S := (fun k_ => P0_ k_)) (spec_l29one.s0 HK.out) hb); have n2_ := an0 HB hb; have n3_ := Aside0.mk (hbox); have n4_ := Aside0.mk ((by rw [hg]; exact (by first | exact HK.out.1 | exact (show Kept w _ (fun k_ => P0_ k_) from spec_l29one.s0 HK.out).1) : w.heap.size ≤ gb200)); have n5_ := Aside0.mk ((by rw [hg]; exact (below_size (bp HB.out)) : w0.heap.size ≤ gb200)); clear HO0; clear HK; clear HB; have HO0 := n0_; have HK := n1_; have HB := n2_; have BK200 := n3_; have GW200 := n4_; have GE200 := n5_; clear n0_ n1_ n2_ n3_ n4_ n5_; clear hb hbox hg; obtain ⟨hcz35_0, hcz35_1, hcz35_2, hcz35_3, hcz35_4, hcz35_5, hcz35_6, hfz35_0, hfz35_1, hfz35_2, hfz35_3, hfz35_4, hfz35_5, hfz35_6⟩ := cl7 BK200; obtain ⟨Ao36, co36, eo36⟩ := Kd.R_slice HO0.out; subst eo36) | ((with_reducible refine gate_callee (f := 91) rfl ?_); refine gsl (some 14) rfl Try.func91 #[.slice Ao36 l0.length co36, .string a1_3] rfl ?_; (with_reducible refine (spec_PairGet.calls k _ _ l0 a1_3 t201 _ ?side1 ?side2 A3.out).mono ?_); (case side1 => exact spec_l29one.s1 HO0.out); (case side2 => exact (Kd.R_reads' HO0.out).2.1); rintro e w37 ⟨rfl, hb⟩; refine ⟨_, rfl, ?_⟩; have n0_ := Aside0.mk (Kd.R_below (kr HO0.out) hb); have n1_ := an1 BK200 hb; have n2_ := Aside0.mk (Kept.below (S := (fun k_ => P0_ k_)) (spec_l29one.s2 HK.out GW200.out) hb); have n3_ := an0 HB hb; clear HO0; clear BK200; clear HK; clear HB; have HO0 := n0_; have BK200 := n1_; have HK := n2_; have HB := n3_; clear n0_ n1_ n2_ n3_; (try clear hb); (try clear hb2); (try clear hk); (try clear hi); obtain ⟨hcz38_0, hcz38_1, hcz38_2, hcz38_3, hcz38_4, hcz38_5, hcz38_6, hfz38_0, hfz38_1, hfz38_2, hfz38_3, hfz38_4, hfz38_5, hfz38_6⟩ := cl7 BK200))
            go_ret2
            exact ⟨_, fe, by (with_reducible repeat (first | apply Kd.R_alloc | apply Kd.R_drewN | apply Kd.R_drew)); exact HO0.out, bp HB.out, spec_l29one.s2 HK.out GW200.out⟩
          · rw [if_neg c33] at H
            have c33b0 : (a1_2 == 1) = false := beq_eq_false_iff_ne.mpr c33
            have c33b1 : (a1_2 != 1) = true := bne_iff_ne.mpr c33
            replace H := Option.bind_eq_some_iff.mp H
            obtain ⟨⟨t210, t211⟩, A390, H⟩ := H
            replace H : (some (t210, t211)) = some (r1, r2) := H
            have A39 := Aside0.mk A390
            clear A390
            simp only [Option.some.injEq, Prod.mk.injEq] at H
            obtain ⟨rfl, rfl⟩ := H
            go_enter Try.func153, Try.ntmps153
            go_wp2_with (first | ((with_reducible refine gate_dst (N := 3) rfl ?_); refine bxe (N := 3) (cs := #[.int .i64 a1_0, .int .i64 a1_1, .int .i64 a1_2, .string a1_3, .int .i64 a1_4, .int .i64 a1_5, .int .i64 a1_6]) (t := 140) ?_; intro gb200 hg w40 hbox hb; have n0_ := Aside0.mk (Kd.R_below (kr HO0.out) hb); have n1_ := Aside0.mk (Kept.below (S := (fun k_ => P0_ k_)) (spec_l29one.s0 HK.out) hb); have n2_ := an0 HB hb; have n3_ := Aside0.mk (hbox); have n4_ := Aside0.mk ((by rw [hg]; exact (by first | exact HK.out.1 | exact (show Kept w _ (fun k_ => P0_ k_) from spec_l29one.s0 HK.out).1) : w.heap.size ≤ gb200)); have n5_ := Aside0.mk ((by rw [hg]; exact (below_size (bp HB.out)) : w0.heap.size ≤ gb200)); clear HO0; clear HK; clear HB; have HO0 := n0_; have HK := n1_; have HB := n2_; have BK200 := n3_; have GW200 := n4_; have GE200 := n5_; clear n0_ n1_ n2_ n3_ n4_ n5_; clear hb hbox hg; obtain ⟨hcz41_0, hcz41_1, hcz41_2, hcz41_3, hcz41_4, hcz41_5, hcz41_6, hfz41_0, hfz41_1, hfz41_2, hfz41_3, hfz41_4, hfz41_5, hfz41_6⟩ := cl7 BK200; obtain ⟨Ao42, co42, eo42⟩ := Kd.R_slice HO0.out; subst eo42) | ((with_reducible refine gate_callee (f := 91) rfl ?_); refine gsl (some 14) rfl Try.func91 #[.slice Ao42 l0.length co42, .string a1_3] rfl ?_; (with_reducible refine (spec_PairGet.calls k _ _ l0 a1_3 t201 _ ?side1 ?side2 A3.out).mono ?_); (case side1 => exact spec_l29one.s1 HO0.out); (case side2 => exact (Kd.R_reads' HO0.out).2.1); rintro e w43 ⟨rfl, hb⟩; refine ⟨_, rfl, ?_⟩; have n0_ := Aside0.mk (Kd.R_below (kr HO0.out) hb); have n1_ := an1 BK200 hb; have n2_ := Aside0.mk (Kept.below (S := (fun k_ => P0_ k_)) (spec_l29one.s2 HK.out GW200.out) hb); have n3_ := an0 HB hb; clear HO0; clear BK200; clear HK; clear HB; have HO0 := n0_; have BK200 := n1_; have HK := n2_; have HB := n3_; clear n0_ n1_ n2_ n3_; (try clear hb); (try clear hb2); (try clear hk); (try clear hi); obtain ⟨hcz44_0, hcz44_1, hcz44_2, hcz44_3, hcz44_4, hcz44_5, hcz44_6, hfz44_0, hfz44_1, hfz44_2, hfz44_3, hfz44_4, hfz44_5, hfz44_6⟩ := cl7 BK200) | ((with_reducible refine gate_callee (f := 93) rfl ?_); refine gsl (some 61) rfl Try.func93 #[.slice Ao42 l0.length co42, .string a1_3, .int .i64 a1_4] rfl ?_; (with_reducible refine (spec_PairPut.calls k _ _ l0 a1_3 a1_4 t210 t211 _ ?side1 ?side2 A39.out).mono ?_); (case side1 => exact spec_l29one.s1 HO0.out); (case side2 => exact (Kd.R_reads' HO0.out).2.1); rintro e w45 ⟨v212, rfl, ho0, hb⟩; refine ⟨_, rfl, ?_⟩; have n0_ := Aside0.mk (Kd.R_elder' (kr HO0.out) (Kd.R_base ho0) hb); have n1_ := Aside0.mk (Kd.R_lower (Kd.R_new' (Kd.R_newM (M := fun k_ => (P0_ k_ ∨ w.heap.size ≤ k_)) ho0 (by first | exact HK.out.1 | exact (show Kept w _ (fun k_ => P0_ k_) from spec_l29one.s2 HK.out GW200.out).1) (fun k_ h_ => .inr h_)) (Kd.R_lt (kr HO0.out))) (below_size (bp HB.out))); have n2_ := an1 BK200 hb; have n3_ := Aside0.mk (Kept.below (S := (fun k_ => P0_ k_)) (spec_l29one.s2 HK.out GW200.out) hb); have n4_ := an0 HB hb; clear HO0; clear BK200; clear HK; clear HB; have HO0 := n0_; have HO213 := n1_; have BK200 := n2_; have HK := n3_; have HB := n4_; clear n0_ n1_ n2_ n3_ n4_; (try clear hb); (try clear hb2); (try clear hk); (try clear hi); (try clear ho0)))
            go_ret2
            exact ⟨_, fe, by (with_reducible repeat (first | apply Kd.R_alloc | apply Kd.R_drewN | apply Kd.R_drew)); exact Kd.R_mono HO213.out (fun _ hk => hk.1.1), bp HB.out, spec_l29one.s2 HK.out GW200.out⟩
    · rw [if_neg c10] at H
      have c10b0 : (a1_6 == t201) = false := beq_eq_false_iff_ne.mpr c10
      have c10b1 : (a1_6 != t201) = true := bne_iff_ne.mpr c10
      simp only [Option.some.injEq, Prod.mk.injEq] at H
      obtain ⟨rfl, rfl⟩ := H
      go_enter Try.func153, Try.ntmps153
      go_wp2_with (first | ((with_reducible refine gate_dst (N := 3) rfl ?_); refine bxe (N := 3) (cs := #[.int .i64 a1_0, .int .i64 a1_1, .int .i64 a1_2, .string a1_3, .int .i64 a1_4, .int .i64 a1_5, .int .i64 a1_6]) (t := 140) ?_; intro gb200 hg w46 hbox hb; have n0_ := Aside0.mk (Kd.R_below (kr HO0.out) hb); have n1_ := Aside0.mk (Kept.below (S := (fun k_ => P0_ k_)) (spec_l29one.s0 HK.out) hb); have n2_ := an0 HB hb; have n3_ := Aside0.mk (hbox); have n4_ := Aside0.mk ((by rw [hg]; exact (by first | exact HK.out.1 | exact (show Kept w _ (fun k_ => P0_ k_) from spec_l29one.s0 HK.out).1) : w.heap.size ≤ gb200)); have n5_ := Aside0.mk ((by rw [hg]; exact (below_size (bp HB.out)) : w0.heap.size ≤ gb200)); clear HO0; clear HK; clear HB; have HO0 := n0_; have HK := n1_; have HB := n2_; have BK200 := n3_; have GW200 := n4_; have GE200 := n5_; clear n0_ n1_ n2_ n3_ n4_ n5_; clear hb hbox hg; obtain ⟨hcz47_0, hcz47_1, hcz47_2, hcz47_3, hcz47_4, hcz47_5, hcz47_6, hfz47_0, hfz47_1, hfz47_2, hfz47_3, hfz47_4, hfz47_5, hfz47_6⟩ := cl7 BK200; obtain ⟨Ao48, co48, eo48⟩ := Kd.R_slice HO0.out; subst eo48) | ((with_reducible refine gate_callee (f := 91) rfl ?_); refine gsl (some 14) rfl Try.func91 #[.slice Ao48 l0.length co48, .string a1_3] rfl ?_; (with_reducible refine (spec_PairGet.calls k _ _ l0 a1_3 t201 _ ?side1 ?side2 A3.out).mono ?_); (case side1 => exact spec_l29one.s1 HO0.out); (case side2 => exact (Kd.R_reads' HO0.out).2.1); rintro e w49 ⟨rfl, hb⟩; refine ⟨_, rfl, ?_⟩; have n0_ := Aside0.mk (Kd.R_below (kr HO0.out) hb); have n1_ := an1 BK200 hb; have n2_ := Aside0.mk (Kept.below (S := (fun k_ => P0_ k_)) (spec_l29one.s2 HK.out GW200.out) hb); have n3_ := an0 HB hb; clear HO0; clear BK200; clear HK; clear HB; have HO0 := n0_; have BK200 := n1_; have HK := n2_; have HB := n3_; clear n0_ n1_ n2_ n3_; (try clear hb); (try clear hb2); (try clear hk); (try clear hi); obtain ⟨hcz50_0, hcz50_1, hcz50_2, hcz50_3, hcz50_4, hcz50_5, hcz50_6, hfz50_0, hfz50_1, hfz50_2, hfz50_3, hfz50_4, hfz50_5, hfz50_6⟩ := cl7 BK200))
      go_ret2
      exact ⟨_, fe, by (with_reducible repeat (first | apply Kd.R_alloc | apply Kd.R_drewN | apply Kd.R_drew)); exact HO0.out, bp HB.out, spec_l29one.s2 HK.out GW200.out⟩

end Go.Proofs.Ytfeeifefmenlmaa.PFnExactRepliesRight
