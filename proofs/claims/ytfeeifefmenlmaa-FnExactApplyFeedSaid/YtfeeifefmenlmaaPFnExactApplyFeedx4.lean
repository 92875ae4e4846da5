-- Written by a program of this session, in the manner of the kit's print (wip/pp.py): functions and their contracts.
import Derived.Test.YtfeeifefmenlmaaPFnExactApplyFeedx0
import Derived.Test.YtfeeifefmenlmaaPFnExactApplyFeedx1
import Derived.Test.YtfeeifefmenlmaaPFnExactApplyFeedx3
namespace Go.Proofs.Ytfeeifefmenlmaa.PFnExactApplyFeed
open Go.RowKit Go.Proofs.YtfeeifefmenlmaaW.PrintWords Go.Proofs.YtfeeifefmenlmaaW.PrintLast Go.Proofs.YtfeeifefmenlmaaW.PrintMore
attribute [local go_sem] binOp_leq_str binOp_gtr_str binOp_geq_str max2_int min2_int max_two min_two max_three min_three max_four min_four   -- for this text's walks alone
set_option linter.unusedVariables false
set_option linter.unusedSimpArgs false

/-! ### spec_PairGet: function 91 -/
def spec_PairGet.f (k : Nat) (l0 : List (S29)) (a1 : ByteArray) : Option (Int) := (spec_l4Place.f k l0 a1).bind fun t122 => ((spec_PairsValid.f k l0).bind fun t123 => (if t123 = true then (if t122 = (l0.length : Int) then (some (-1)) else (if 0 ≤ t122 then (if t122 < (l0.length : Int) then (if ((rd_T29 l0 t122).f0).toList = a1.toList then (some ((rd_T29 l0 t122).f1)) else (some (-1))) else (none)) else (none))) else (some (-1))))
theorem spec_PairGet.mono : ∀ a0 a1 k, LeO (spec_PairGet.f k a0 a1) (spec_PairGet.f (k + 1) a0 a1) := by
  intro a0 a1 k
  unfold spec_PairGet.f
  repeat' first
      | (with_reducible exact spec_PairsValid.mono _ _)
      | (with_reducible exact spec_l4Place.mono _ _ _)
      | (with_reducible exact LeO.refl _)
      | (with_reducible exact LeO.none _)
      | (with_reducible refine LeO.ite ?_ ?_)
      | (with_reducible refine LeO.bind ?_ (fun _ => ?_))
      | exact spec_PairsValid.mono _ _
      | exact spec_l4Place.mono _ _ _
      | exact LeO.none _
      | refine LeO.ite ?_ ?_
      | refine LeO.bind ?_ (fun _ => ?_)
set_option maxHeartbeats 8000000 in
set_option maxRecDepth 100000 in
theorem spec_PairGet.calls (k : Nat) (A0 : Option Addr) (c0 : Nat) (l0 : List (S29)) (a1 : ByteArray) (r : Int) (w : World) (hr0 : Kd.C k29 w A0 l0.length l0) (hc0 : l0.length ≤ c0) (h : spec_PairGet.f k l0 a1 = some r) :
    Calls Try.prog 91 #[.slice A0 l0.length c0, .string a1] w fun e w' => e = .returned (.int .i64 r) ∧ Below w.heap.size w w' := by
  have HR0 := Aside0.mk hr0
  have HC0 := Aside0.mk hc0
  clear hr0 hc0
  have HB := Aside0.mk (Below.refl w.heap.size w)
  have H : ((spec_l4Place.f k l0 a1).bind fun t122 => ((spec_PairsValid.f k l0).bind fun t123 => (if t123 = true then (if t122 = (l0.length : Int) then (some (-1)) else (if 0 ≤ t122 then (if t122 < (l0.length : Int) then (if ((rd_T29 l0 t122).f0).toList = a1.toList then (some ((rd_T29 l0 t122).f1)) else (some (-1))) else (none)) else (none))) else (some (-1))))) = some r := h
  clear h
  replace H := Option.bind_eq_some_iff.mp H
  obtain ⟨t122, A30, H⟩ := H
  replace H : ((spec_PairsValid.f k l0).bind fun t123 => (if t123 = true then (if t122 = (l0.length : Int) then (some (-1)) else (if 0 ≤ t122 then (if t122 < (l0.length : Int) then (if ((rd_T29 l0 t122).f0).toList = a1.toList then (some ((rd_T29 l0 t122).f1)) else (some (-1))) else (none)) else (none))) else (some (-1)))) = some r := H
  have A3 := Aside0.mk A30
  clear A30
  replace H := Option.bind_eq_some_iff.mp H
  obtain ⟨t123, A40, H⟩ := H
  replace H : (if t123 = true then (if t122 = (l0.length : Int) then (some (-1)) else (if 0 ≤ t122 then (if t122 < (l0.length : Int) then (if ((rd_T29 l0 t122).f0).toList = a1.toList then (some ((rd_T29 l0 t122).f1)) else (some (-1))) else (none)) else (none))) else (some (-1))) = some r := H
  have A4 := Aside0.mk A40
  clear A40
  by_cases c5 : t123 = true
  · subst c5
    have H1 : (if t122 = (l0.length : Int) then (some (-1)) else (if 0 ≤ t122 then (if t122 < (l0.length : Int) then (if ((rd_T29 l0 t122).f0).toList = a1.toList then (some ((rd_T29 l0 t122).f1)) else (some (-1))) else (none)) else (none))) = some r := by rw [if_pos rfl] at H; exact H
    clear H
    have H := H1
    clear H1
    by_cases c6 : t122 = (l0.length : Int)
    · rw [if_pos c6] at H
      have c6b0 : (t122 == (l0.length : Int)) = true := beq_iff_eq.mpr c6
      have c6b1 : (t122 != (l0.length : Int)) = false := bne_eq_false_iff_eq.mpr c6
      clear c6
      obtain rfl := Option.some.inj H
      go_enter Try.func91, Try.ntmps91
      go_wp2_with (first | ((with_reducible refine gate_callee (f := 136) rfl ?_); refine gsl (some 8) rfl Try.func136 #[.slice A0 l0.length c0, .string a1] rfl ?_; (with_reducible refine (spec_l4Place.calls k _ _ l0 a1 t122 _ ?side1 ?side2 A3.out).mono ?_); (case side1 => exact cc HR0.out); (case side2 => exact HC0.out); rintro e w' ⟨rfl, ⟨nd, rfl⟩⟩; refine ⟨_, rfl, ?_⟩) | ((with_reducible refine gate_callee (f := 72) rfl ?_); refine gsl (some 10) rfl Try.func72 #[.slice A0 l0.length c0] rfl ?_; (with_reducible refine (spec_PairsValid.calls k _ _ l0 true _ ?side1 ?side2 A4.out).mono ?_); (case side1 => exact cc HR0.out); (case side2 => exact HC0.out); rintro e w7 ⟨rfl, hb⟩; refine ⟨_, rfl, ?_⟩; replace HB := an0 HB hb; (try clear hb); (try clear hb2); (try clear hk); (try clear hi)))
      go_ret
      exact ⟨fe, bp HB.out⟩
    · rw [if_neg c6] at H
      have c6b0 : (t122 == (l0.length : Int)) = false := beq_eq_false_iff_ne.mpr c6
      have c6b1 : (t122 != (l0.length : Int)) = true := bne_iff_ne.mpr c6
      by_cases c8 : 0 ≤ t122
      · rw [if_pos c8] at H
        have c8b0 : decide (0 ≤ t122) = true := decide_eq_true c8
        clear c8
        by_cases c9 : t122 < (l0.length : Int)
        · rw [if_pos c9] at H
          have c9b0 : decide (t122 < (l0.length : Int)) = true := decide_eq_true c9
          clear c9
          by_cases c10 : ((rd_T29 l0 t122).f0).toList = a1.toList
          · rw [if_pos c10] at H
            have c10b0 : (((rd_T29 l0 t122).f0).toList == a1.toList) = true := beq_iff_eq.mpr c10
            have c10b1 : (((rd_T29 l0 t122).f0).toList != a1.toList) = false := bne_eq_false_iff_eq.mpr c10
            clear c10
            obtain rfl := Option.some.inj H
            go_enter Try.func91, Try.ntmps91
            go_wp2_with (first | ((with_reducible refine gate_callee (f := 136) rfl ?_); refine gsl (some 8) rfl Try.func136 #[.slice A0 l0.length c0, .string a1] rfl ?_; (with_reducible refine (spec_l4Place.calls k _ _ l0 a1 t122 _ ?side1 ?side2 A3.out).mono ?_); (case side1 => exact cc HR0.out); (case side2 => exact HC0.out); rintro e w' ⟨rfl, ⟨nd, rfl⟩⟩; refine ⟨_, rfl, ?_⟩) | ((with_reducible refine gate_callee (f := 72) rfl ?_); refine gsl (some 10) rfl Try.func72 #[.slice A0 l0.length c0] rfl ?_; (with_reducible refine (spec_PairsValid.calls k _ _ l0 true _ ?side1 ?side2 A4.out).mono ?_); (case side1 => exact cc HR0.out); (case side2 => exact HC0.out); rintro e w11 ⟨rfl, hb⟩; refine ⟨_, rfl, ?_⟩; replace HB := an0 HB hb; (try clear hb); (try clear hb2); (try clear hk); (try clear hi); have p124 : 0 ≤ (t122 : Int) := of_decide_eq_true (by first | (with_reducible assumption) | assumption); have q124 : t122 < (l0.length : Int) := of_decide_eq_true (by first | (with_reducible assumption) | assumption); obtain ⟨ad124, e124, hx124_0, hx124_1⟩ := at_T29 HR0.out t122 p124 q124; cases e124; replace hx124_0 := hcx HB hx124_0; replace hx124_1 := hcx HB hx124_1; replace p124 := eq_true p124; replace q124 := eq_true q124; have p125 : 0 ≤ (t122 : Int) := of_decide_eq_true (by first | (with_reducible assumption) | assumption); have q125 : t122 < (l0.length : Int) := of_decide_eq_true (by first | (with_reducible assumption) | assumption); obtain ⟨ad125, e125, hx125_0, hx125_1⟩ := at_T29 HR0.out t122 p125 q125; obtain rfl : ad124 = ad125 := (by injection e125); replace hx125_0 := hcx HB hx125_0; replace hx125_1 := hcx HB hx125_1; replace p125 := eq_true p125; replace q125 := eq_true q125))
            go_ret
            exact ⟨fe, bp HB.out⟩
          · rw [if_neg c10] at H
            have c10b0 : (((rd_T29 l0 t122).f0).toList == a1.toList) = false := beq_eq_false_iff_ne.mpr c10
            have c10b1 : (((rd_T29 l0 t122).f0).toList != a1.toList) = true := bne_iff_ne.mpr c10
            obtain rfl := Option.some.inj H
            go_enter Try.func91, Try.ntmps91
            go_wp2_with (first | ((with_reducible refine gate_callee (f := 136) rfl ?_); refine gsl (some 8) rfl Try.func136 #[.slice A0 l0.length c0, .string a1] rfl ?_; (with_reducible refine (spec_l4Place.calls k _ _ l0 a1 t122 _ ?side1 ?side2 A3.out).mono ?_); (case side1 => exact cc HR0.out); (case side2 => exact HC0.out); rintro e w' ⟨rfl, ⟨nd, rfl⟩⟩; refine ⟨_, rfl, ?_⟩) | ((with_reducible refine gate_callee (f := 72) rfl ?_); refine gsl (some 10) rfl Try.func72 #[.slice A0 l0.length c0] rfl ?_; (with_reducible refine (spec_PairsValid.calls k _ _ l0 true _ ?side1 ?side2 A4.out).mono ?_); (case side1 => exact cc HR0.out); (case side2 => exact HC0.out); rintro e w12 ⟨rfl, hb⟩; refine ⟨_, rfl, ?_⟩; replace HB := an0 HB hb; (try clear hb); (try clear hb2); (try clear hk); (try clear hi); have p124 : 0 ≤ (t122 : Int) := of_decide_eq_true (by first | (with_reducible assumption) | assumption); have q124 : t122 < (l0.length : Int) := of_decide_eq_true (by first | (with_reducible assumption) | assumption); obtain ⟨ad124, e124, hx124_0, hx124_1⟩ := at_T29 HR0.out t122 p124 q124; cases e124; replace hx124_0 := hcx HB hx124_0; replace hx124_1 := hcx HB hx124_1; replace p124 := eq_true p124; replace q124 := eq_true q124))
            go_ret
            exact ⟨fe, bp HB.out⟩
        · rw [if_neg c9] at H
          exact absurd H (by simp)
      · rw [if_neg c8] at H
        exact absurd H (by simp)
  · replace c5 := Bool.eq_false_iff.mpr c5
    subst c5
    have H1 : (some (-1)) = some r := by rw [if_neg (show ¬ (false = true) by decide)] at H; exact H
    clear H
    have H := H1
    clear H1
    obtain rfl := Option.some.inj H
    go_enter Try.func91, Try.ntmps91
    go_wp2_with (first | ((with_reducible refine gate_callee (f := 136) rfl ?_); refine gsl (some 8) rfl Try.func136 #[.slice A0 l0.length c0, .string a1] rfl ?_; (with_reducible refine (spec_l4Place.calls k _ _ l0 a1 t122 _ ?side1 ?side2 A3.out).mono ?_); (case side1 => exact cc HR0.out); (case side2 => exact HC0.out); rintro e w' ⟨rfl, ⟨nd, rfl⟩⟩; refine ⟨_, rfl, ?_⟩) | ((with_reducible refine gate_callee (f := 72) rfl ?_); refine gsl (some 10) rfl Try.func72 #[.slice A0 l0.length c0] rfl ?_; (with_reducible refine (spec_PairsValid.calls k _ _ l0 false _ ?side1 ?side2 A4.out).mono ?_); (case side1 => exact cc HR0.out); (case side2 => exact HC0.out); rintro e w13 ⟨rfl, hb⟩; refine ⟨_, rfl, ?_⟩; replace HB := an0 HB hb; (try clear hb); (try clear hb2); (try clear hk); (try clear hi)))
    go_ret
    exact ⟨fe, bp HB.out⟩

/-! ### spec_PairDrop: function 92 -/
def spec_PairDrop.f (k : Nat) (l0 : List (S29)) (a1 : ByteArray) : Option ((List (S29)) × Bool) := (some (([] : List (S29)) : List (S29))).bind fun y126 => ((spec_PairsValid.f k l0).bind fun t129 => (if t129 = true then ((spec_l4Place.f k l0 a1).bind fun t130 => (if t130 = (l0.length : Int) then (if y126.length + l0.length < 5864062014805 then (some ((y126 ++ l0), false)) else (none)) else (if 0 ≤ t130 then (if t130 < (l0.length : Int) then (if ((rd_T29 l0 t130).f0).toList = a1.toList then (if t130 ≤ (l0.length : Int) then ((some (l0.take (t130 : Int).toNat : List (S29))).bind fun y135 => (if y126.length + y135.length < 5864062014805 then ((some (y126 ++ y135 : List (S29))).bind fun y139 => (if 0 ≤ (wrap64 (t130 + 1)) then (if (wrap64 (t130 + 1)) ≤ (l0.length : Int) then ((some (l0.drop ((wrap64 (t130 + 1)) : Int).toNat : List (S29))).bind fun y142 => (if y139.length + y142.length < 5864062014805 then (some ((y139 ++ y142), true)) else (none))) else (none)) else (none))) else (none))) else (none)) else (if y126.length + l0.length < 5864062014805 then (some ((y126 ++ l0), false)) else (none))) else (none)) else (none)))) else (some (y126, false))))
theorem spec_PairDrop.mono : ∀ a0 a1 k, LeO (spec_PairDrop.f k a0 a1) (spec_PairDrop.f (k + 1) a0 a1) := by
  intro a0 a1 k
  unfold spec_PairDrop.f
  repeat' first
      | (with_reducible exact spec_PairsValid.mono _ _)
      | (with_reducible exact spec_l4Place.mono _ _ _)
      | (with_reducible exact LeO.refl _)
      | (with_reducible exact LeO.none _)
      | (with_reducible refine LeO.ite ?_ ?_)
      | (with_reducible refine LeO.bind ?_ (fun _ => ?_))
      | exact spec_PairsValid.mono _ _
      | exact spec_l4Place.mono _ _ _
      | exact LeO.none _
      | refine LeO.ite ?_ ?_
      | refine LeO.bind ?_ (fun _ => ?_)
theorem spec_PairDrop.s0 {P0 P1 Q : Prop} (B0 : P0) (B1 : P1) (h : P0 → P1 → Q := by (intro b0_ b1_; repeat (first | exact (Kd.C_below b0_ (bp b1_)) | (with_reducible refine Kd.C_alloc ?_ _) | (with_reducible refine Kd.C_drewN ?_ _) | (with_reducible refine Kd.C_drew ?_)))) : Q := h B0 B1
set_option maxHeartbeats 8000000 in
set_option maxRecDepth 100000 in
theorem spec_PairDrop.calls (k : Nat) (A0 : Option Addr) (c0 : Nat) (l0 : List (S29)) (a1 : ByteArray) (r1 : List (S29)) (r2 : Bool) (w : World) (hr0 : Kd.C k29 w A0 l0.length l0) (hc0 : l0.length ≤ c0) (h : spec_PairDrop.f k l0 a1 = some (r1, r2)) :
    Calls Try.prog 92 #[.slice A0 l0.length c0, .string a1] w fun e w' => ∃ v0_ : Value, e = .returned (.tuple #[v0_, .bool r2]) ∧ Kd.R k29 29 w' w.heap.size (fun _ => True) v0_ r1 ∧ Below w.heap.size w w' := by
  have HR0 := Aside0.mk hr0
  have HC0 := Aside0.mk hc0
  clear hr0 hc0
  have HB := Aside0.mk (Below.refl w.heap.size w)
  have H : ((some (([] : List (S29)) : List (S29))).bind fun y126 => ((spec_PairsValid.f k l0).bind fun t129 => (if t129 = true then ((spec_l4Place.f k l0 a1).bind fun t130 => (if t130 = (l0.length : Int) then (if y126.length + l0.length < 5864062014805 then (some ((y126 ++ l0), false)) else (none)) else (if 0 ≤ t130 then (if t130 < (l0.length : Int) then (if ((rd_T29 l0 t130).f0).toList = a1.toList then (if t130 ≤ (l0.length : Int) then ((some (l0.take (t130 : Int).toNat : List (S29))).bind fun y135 => (if y126.length + y135.length < 5864062014805 then ((some (y126 ++ y135 : List (S29))).bind fun y139 => (if 0 ≤ (wrap64 (t130 + 1)) then (if (wrap64 (t130 + 1)) ≤ (l0.length : Int) then ((some (l0.drop ((wrap64 (t130 + 1)) : Int).toNat : List (S29))).bind fun y142 => (if y139.length + y142.length < 5864062014805 then (some ((y139 ++ y142), true)) else (none))) else (none)) else (none))) else (none))) else (none)) else (if y126.length + l0.length < 5864062014805 then (some ((y126 ++ l0), false)) else (none))) else (none)) else (none)))) else (some (y126, false))))) = some (r1, r2) := h
  clear h
  obtain ⟨y126, hy126⟩ : ∃ y_ : List (S29), y_ = (([] : List (S29))) := ⟨_, rfl⟩
  replace H : ((spec_PairsValid.f k l0).bind fun t129 => (if t129 = true then ((spec_l4Place.f k l0 a1).bind fun t130 => (if t130 = (l0.length : Int) then (if y126.length + l0.length < 5864062014805 then (some ((y126 ++ l0), false)) else (none)) else (if 0 ≤ t130 then (if t130 < (l0.length : Int) then (if ((rd_T29 l0 t130).f0).toList = a1.toList then (if t130 ≤ (l0.length : Int) then ((some (l0.take (t130 : Int).toNat : List (S29))).bind fun y135 => (if y126.length + y135.length < 5864062014805 then ((some (y126 ++ y135 : List (S29))).bind fun y139 => (if 0 ≤ (wrap64 (t130 + 1)) then (if (wrap64 (t130 + 1)) ≤ (l0.length : Int) then ((some (l0.drop ((wrap64 (t130 + 1)) : Int).toNat : List (S29))).bind fun y142 => (if y139.length + y142.length < 5864062014805 then (some ((y139 ++ y142), true)) else (none))) else (none)) else (none))) else (none))) else (none)) else (if y126.length + l0.length < 5864062014805 then (some ((y126 ++ l0), false)) else (none))) else (none)) else (none)))) else (some (y126, false)))) = some (r1, r2) := by first | (rw [hy126]; with_reducible exact H) | (have H2_ := (Option.bind_some _ _).symm.trans H; rw [hy126]; with_reducible exact H2_) | (have H2_ := (Option.bind_some _ _).symm.trans H; with_reducible exact H2_) | with_reducible exact H | (rw [hy126]; exact H) | exact H
  have Ny126 := Aside0.mk hy126
  clear hy126
  replace H := Option.bind_eq_some_iff.mp H
  obtain ⟨t129, A30, H⟩ := H
  replace H : (if t129 = true then ((spec_l4Place.f k l0 a1).bind fun t130 => (if t130 = (l0.length : Int) then (if y126.length + l0.length < 5864062014805 then (some ((y126 ++ l0), false)) else (none)) else (if 0 ≤ t130 then (if t130 < (l0.length : Int) then (if ((rd_T29 l0 t130).f0).toList = a1.toList then (if t130 ≤ (l0.length : Int) then ((some (l0.take (t130 : Int).toNat : List (S29))).bind fun y135 => (if y126.length + y135.length < 5864062014805 then ((some (y126 ++ y135 : List (S29))).bind fun y139 => (if 0 ≤ (wrap64 (t130 + 1)) then (if (wrap64 (t130 + 1)) ≤ (l0.length : Int) then ((some (l0.drop ((wrap64 (t130 + 1)) : Int).toNat : List (S29))).bind fun y142 => (if y139.length + y142.length < 5864062014805 then (some ((y139 ++ y142), true)) else (none))) else (none)) else (none))) else (none))) else (none)) else (if y126.length + l0.length < 5864062014805 then (some ((y126 ++ l0), false)) else (none))) else (none)) else (none)))) else (some (y126, false))) = some (r1, r2) := H
  have A3 := Aside0.mk A30
  clear A30
  by_cases c4 : t129 = true
  · subst c4
    have H1 : ((spec_l4Place.f k l0 a1).bind fun t130 => (if t130 = (l0.length : Int) then (if y126.length + l0.length < 5864062014805 then (some ((y126 ++ l0), false)) else (none)) else (if 0 ≤ t130 then (if t130 < (l0.length : Int) then (if ((rd_T29 l0 t130).f0).toList = a1.toList then (if t130 ≤ (l0.length : Int) then ((some (l0.take (t130 : Int).toNat : List (S29))).bind fun y135 => (if y126.length + y135.length < 5864062014805 then ((some (y126 ++ y135 : List (S29))).bind fun y139 => (if 0 ≤ (wrap64 (t130 + 1)) then (if (wrap64 (t130 + 1)) ≤ (l0.length : Int) then ((some (l0.drop ((wrap64 (t130 + 1)) : Int).toNat : List (S29))).bind fun y142 => (if y139.length + y142.length < 5864062014805 then (some ((y139 ++ y142), true)) else (none))) else (none)) else (none))) else (none))) else (none)) else (if y126.length + l0.length < 5864062014805 then (some ((y126 ++ l0), false)) else (none))) else (none)) else (none)))) = some (r1, r2) := by rw [if_pos rfl] at H; exact H
    clear H
    have H := H1
    clear H1
    replace H := Option.bind_eq_some_iff.mp H
    obtain ⟨t130, A50, H⟩ := H
    replace H : (if t130 = (l0.length : Int) then (if y126.length + l0.length < 5864062014805 then (some ((y126 ++ l0), false)) else (none)) else (if 0 ≤ t130 then (if t130 < (l0.length : Int) then (if ((rd_T29 l0 t130).f0).toList = a1.toList then (if t130 ≤ (l0.length : Int) then ((some (l0.take (t130 : Int).toNat : List (S29))).bind fun y135 => (if y126.length + y135.length < 5864062014805 then ((some (y126 ++ y135 : List (S29))).bind fun y139 => (if 0 ≤ (wrap64 (t130 + 1)) then (if (wrap64 (t130 + 1)) ≤ (l0.length : Int) then ((some (l0.drop ((wrap64 (t130 + 1)) : Int).toNat : List (S29))).bind fun y142 => (if y139.length + y142.length < 5864062014805 then (some ((y139 ++ y142), true)) else (none))) else (none)) else (none))) else (none))) else (none)) else (if y126.length + l0.length < 5864062014805 then (some ((y126 ++ l0), false)) else (none))) else (none)) else (none))) = some (r1, r2) := H
    have A5 := Aside0.mk A50
    clear A50
    by_cases c6 : t130 = (l0.length : Int)
    · rw [if_pos c6] at H
      have c6b0 : (t130 == (l0.length : Int)) = true := beq_iff_eq.mpr c6
      have c6b1 : (t130 != (l0.length : Int)) = false := bne_eq_false_iff_eq.mpr c6
      clear c6
      by_cases c7 : y126.length + l0.length < 5864062014805
      · rw [if_pos c7] at H
        have LMc7 := Aside0.mk c7
        clear c7
        obtain ⟨y131, hy131⟩ : ∃ y_ : List (S29), y_ = (y126 ++ l0) := ⟨_, rfl⟩
        replace H : (some (y131, false)) = some (r1, r2) := by first | (rw [hy131]; with_reducible exact H) | (have H2_ := (Option.bind_some _ _).symm.trans H; rw [hy131]; with_reducible exact H2_) | (have H2_ := (Option.bind_some _ _).symm.trans H; with_reducible exact H2_) | with_reducible exact H | (rw [hy131]; exact H) | exact H
        have Ny131 := Aside0.mk hy131
        clear hy131
        simp only [Option.some.injEq, Prod.mk.injEq] at H
        obtain ⟨rfl, rfl⟩ := H
        go_enter Try.func92, Try.ntmps92
        go_wp2_with (first | ((with_reducible refine gate_dst (N := 8) rfl ?_); refine Kd.R_lit k29 _ 29 ?hg (N := 8) ?hd (xs := ([] : List (S29))) (inner := []) (ok := fun _ => True) (okp := fun _ => True) ?hr ?hp (fun _ hk => hk) trivial (Below.refl _ _) (Nat.le_refl _) (by simp) ?_; (case hd => rfl); (case hg => rfl); (case hr => first | (go_simp; done) | (go_simp; rfl)); (case hp => exact (Reps.none _ _)); intro v127 w8 ho9 hb hg_ hnew_; clear hg_ hnew_; (first | rw [← Ny126.out] at ho9 | (simp only [Int.reduceToNat] at ho9; rw [← Ny126.out] at ho9)); have n0_ := Aside0.mk (Kd.R_lower ho9 (below_size (bp HB.out))); have n1_ := an0 HB hb; clear HB; have HO128 := n0_; have HB := n1_; clear n0_ n1_; clear hb ho9) | ((with_reducible refine gate_callee (f := 72) rfl ?_); refine gsl (some 10) rfl Try.func72 #[.slice A0 l0.length c0] rfl ?_; (with_reducible refine (spec_PairsValid.calls k _ _ l0 true _ ?side1 ?side2 A3.out).mono ?_); (case side1 => exact cc (Kd.C_below HR0.out HB.out)); (case side2 => exact HC0.out); rintro e w10 ⟨rfl, hb⟩; refine ⟨_, rfl, ?_⟩; have n0_ := Aside0.mk (Kd.R_below (kr HO128.out) hb); have n1_ := an0 HB hb; clear HO128; clear HB; have HO128 := n0_; have HB := n1_; clear n0_ n1_; (try clear hb); (try clear hb2); (try clear hk); (try clear hi)) | ((with_reducible refine gate_callee (f := 136) rfl ?_); refine gsl (some 15) rfl Try.func136 #[.slice A0 l0.length c0, .string a1] rfl ?_; (with_reducible refine (spec_l4Place.calls k _ _ l0 a1 t130 _ ?side1 ?side2 A5.out).mono ?_); (case side1 => exact cc (Kd.C_below HR0.out HB.out)); (case side2 => exact HC0.out); rintro e w' ⟨rfl, ⟨nd, rfl⟩⟩; refine ⟨_, rfl, ?_⟩) | ((with_reducible refine gate_builtin (b := .append) (xs := #[.tmp 29, .tmp 30]) rfl ?_); at_builtin; refine Kd.R_append_rows k29 (w0 := w) w.heap.size rfl (.tmp 29) (.tmp 30) 23 29 (.agg #[(.string ⟨#[]⟩), (.int .i64 0)]) 24 rfl Try.underlying23 info29 rfl (by decide) (by omega) v127 y126 l0 _ _ _ (fun _ => True) (fun _ => False) rfl rfl ?aO ?aR (fun _ _ h => h) (fun _ h => h.elim) ?aF ?aB ?aS ?aL ?_; (case aR => exact spec_PairDrop.s0 HR0.out HB.out); (case aB => exact (bp HB.out)); (case aF => exact (fun _ _ => trivial)); (case aO => exact (kr HO128.out)); (case aS => exact (below_size (bp HB.out))); (case aL => have := LMc7.out; omega); intro v132 w11 ho hb hg hat; rw [← Ny131.out] at ho; have n0_ := Aside0.mk (hb); have n1_ := Aside0.mk (ho); clear HB; clear HO128; have HB := n0_; have HO133 := n1_; clear n0_ n1_; clear ho hb hg hat))
        go_ret2
        exact ⟨_, fe, by (with_reducible repeat (first | apply Kd.R_alloc | apply Kd.R_drewN | apply Kd.R_drew)); exact HO133.out, bp HB.out⟩
      · rw [if_neg c7] at H
        exact absurd H (by simp)
    · rw [if_neg c6] at H
      have c6b0 : (t130 == (l0.length : Int)) = false := beq_eq_false_iff_ne.mpr c6
      have c6b1 : (t130 != (l0.length : Int)) = true := bne_iff_ne.mpr c6
      by_cases c12 : 0 ≤ t130
      · rw [if_pos c12] at H
        have c12b0 : decide (0 ≤ t130) = true := decide_eq_true c12
        clear c12
        by_cases c13 : t130 < (l0.length : Int)
        · rw [if_pos c13] at H
          have c13b0 : decide (t130 < (l0.length : Int)) = true := decide_eq_true c13
          clear c13
          by_cases c14 : ((rd_T29 l0 t130).f0).toList = a1.toList
          · rw [if_pos c14] at H
            have c14b0 : (((rd_T29 l0 t130).f0).toList == a1.toList) = true := beq_iff_eq.mpr c14
            have c14b1 : (((rd_T29 l0 t130).f0).toList != a1.toList) = false := bne_eq_false_iff_eq.mpr c14
            clear c14
            have c15b0 := eq_true (of_decide_eq_true (by first | (with_reducible assumption) | assumption) : 0 ≤ t130)
            by_cases c16 : t130 ≤ (l0.length : Int)
            · rw [if_pos c16] at H
              have c16b0 := eq_true c16
              have c16b1 : decide (t130 ≤ (l0.length : Int)) = true := decide_eq_true c16
              clear c16
              obtain ⟨y135, hy135⟩ : ∃ y_ : List (S29), y_ = (l0.take (t130 : Int).toNat) := ⟨_, rfl⟩
              replace H : (if y126.length + y135.length < 5864062014805 then ((some (y126 ++ y135 : List (S29))).bind fun y139 => (if 0 ≤ (wrap64 (t130 + 1)) then (if (wrap64 (t130 + 1)) ≤ (l0.length : Int) then ((some (l0.drop ((wrap64 (t130 + 1)) : Int).toNat : List (S29))).bind fun y142 => (if y139.length + y142.length < 5864062014805 then (some ((y139 ++ y142), true)) else (none))) else (none)) else (none))) else (none)) = some (r1, r2) := by first | (rw [hy135]; with_reducible exact H) | (have H2_ := (Option.bind_some _ _).symm.trans H; rw [hy135]; with_reducible exact H2_) | (have H2_ := (Option.bind_some _ _).symm.trans H; with_reducible exact H2_) | with_reducible exact H | (rw [hy135]; exact H) | exact H
              have Ny135 := Aside0.mk hy135
              clear hy135
              by_cases c17 : y126.length + y135.length < 5864062014805
              · rw [if_pos c17] at H
                have LMc17 := Aside0.mk c17
                clear c17
                obtain ⟨y139, hy139⟩ : ∃ y_ : List (S29), y_ = (y126 ++ y135) := ⟨_, rfl⟩
                replace H : (if 0 ≤ (wrap64 (t130 + 1)) then (if (wrap64 (t130 + 1)) ≤ (l0.length : Int) then ((some (l0.drop ((wrap64 (t130 + 1)) : Int).toNat : List (S29))).bind fun y142 => (if y139.length + y142.length < 5864062014805 then (some ((y139 ++ y142), true)) else (none))) else (none)) else (none)) = some (r1, r2) := by first | (rw [hy139]; with_reducible exact H) | (have H2_ := (Option.bind_some _ _).symm.trans H; rw [hy139]; with_reducible exact H2_) | (have H2_ := (Option.bind_some _ _).symm.trans H; with_reducible exact H2_) | with_reducible exact H | (rw [hy139]; exact H) | exact H
                have Ny139 := Aside0.mk hy139
                clear hy139
                obtain ⟨ji18, hji18⟩ : ∃ j_ : Int, (wrap64 (t130 + 1)) = j_ := ⟨_, rfl⟩
                replace H : (if 0 ≤ (ji18) then (if (ji18) ≤ (l0.length : Int) then ((some (l0.drop ((ji18) : Int).toNat : List (S29))).bind fun y142 => (if y139.length + y142.length < 5864062014805 then (some ((y139 ++ y142), true)) else (none))) else (none)) else (none)) = some (r1, r2) := by first | (rw [hji18] at H; exact H) | (simp only [hji18] at H ⊢; exact H)
                (try rw [hji18] at A3)
                (try rw [hji18] at A5)
                have hji18w : (IntKind.i64.wrap (t130 + 1)) = ji18 := (i64_w _).trans hji18
                by_cases c19 : 0 ≤ (ji18)
                · rw [if_pos c19] at H
                  have c19b0 := eq_true c19
                  have c19b1 : decide (0 ≤ (ji18)) = true := decide_eq_true c19
                  clear c19
                  by_cases c20 : (ji18) ≤ (l0.length : Int)
                  · rw [if_pos c20] at H
                    have c20b0 := eq_true c20
                    have c20b1 : decide ((ji18) ≤ (l0.length : Int)) = true := decide_eq_true c20
                    clear c20
                    obtain ⟨y142, hy142⟩ : ∃ y_ : List (S29), y_ = (l0.drop ((ji18) : Int).toNat) := ⟨_, rfl⟩
                    replace H : (if y139.length + y142.length < 5864062014805 then (some ((y139 ++ y142), true)) else (none)) = some (r1, r2) := by first | (rw [hy142]; with_reducible exact H) | (have H2_ := (Option.bind_some _ _).symm.trans H; rw [hy142]; with_reducible exact H2_) | (have H2_ := (Option.bind_some _ _).symm.trans H; with_reducible exact H2_) | with_reducible exact H | (rw [hy142]; exact H) | exact H
                    have Ny142 := Aside0.mk hy142
                    clear hy142
                    by_cases c21 : y139.length + y142.length < 5864062014805
                    · rw [if_pos c21] at H
                      have LMc21 := Aside0.mk c21
                      clear c21
                      obtain ⟨y146, hy146⟩ : ∃ y_ : List (S29), y_ = (y139 ++ y142) := ⟨_, rfl⟩
                      replace H : (some (y146, true)) = some (r1, r2) := by first | (rw [hy146]; with_reducible exact H) | (have H2_ := (Option.bind_some _ _).symm.trans H; rw [hy146]; with_reducible exact H2_) | (have H2_ := (Option.bind_some _ _).symm.trans H; with_reducible exact H2_) | with_reducible exact H | (rw [hy146]; exact H) | exact H
                      have Ny146 := Aside0.mk hy146
                      clear hy146
                      simp only [Option.some.injEq, Prod.mk.injEq] at H
                      obtain ⟨rfl, rfl⟩ := H
                      go_enter Try.func92, Try.ntmps92
                      go_wp2_with (first | ((with_reducible refine gate_dst (N := 8) rfl ?_); refine Kd.R_lit k29 _ 29 ?hg (N := 8) ?hd (xs := ([] : List (S29))) (inner := []) (ok := fun _ => True) (okp := fun _ => True) ?hr ?hp (fun _ hk => hk) trivial (Below.refl _ _) (Nat.le_refl _) (by simp) ?_; (case hd => rfl); (case hg => rfl); (case hr => first | (go_simp; done) | (go_simp; rfl)); (case hp => exact (Reps.none _ _)); intro v127 w22 ho23 hb hg_ hnew_; clear hg_ hnew_; (first | rw [← Ny126.out] at ho23 | (simp only [Int.reduceToNat] at ho23; rw [← Ny126.out] at ho23)); have n0_ := Aside0.mk (Kd.R_lower ho23 (below_size (bp HB.out))); have n1_ := an0 HB hb; clear HB; have HO128 := n0_; have HB := n1_; clear n0_ n1_; clear hb ho23) | ((with_reducible refine gate_callee (f := 72) rfl ?_); refine gsl (some 10) rfl Try.func72 #[.slice A0 l0.length c0] rfl ?_; (with_reducible refine (spec_PairsValid.calls k _ _ l0 true _ ?side1 ?side2 A3.out).mono ?_); (case side1 => exact cc (Kd.C_below HR0.out HB.out)); (case side2 => exact HC0.out); rintro e w24 ⟨rfl, hb⟩; refine ⟨_, rfl, ?_⟩; have n0_ := Aside0.mk (Kd.R_below (kr HO128.out) hb); have n1_ := an0 HB hb; clear HO128; clear HB; have HO128 := n0_; have HB := n1_; clear n0_ n1_; (try clear hb); (try clear hb2); (try clear hk); (try clear hi)) | ((with_reducible refine gate_callee (f := 136) rfl ?_); refine gsl (some 15) rfl Try.func136 #[.slice A0 l0.length c0, .string a1] rfl ?_; (with_reducible refine (spec_l4Place.calls k _ _ l0 a1 t130 _ ?side1 ?side2 A5.out).mono ?_); (case side1 => exact cc (Kd.C_below HR0.out HB.out)); (case side2 => exact HC0.out); rintro e w' ⟨rfl, ⟨nd, rfl⟩⟩; refine ⟨_, rfl, ?_⟩; have p134 : 0 ≤ (t130 : Int) := of_decide_eq_true (by first | (with_reducible assumption) | assumption); have q134 : t130 < (l0.length : Int) := of_decide_eq_true (by first | (with_reducible assumption) | assumption); obtain ⟨ad134, e134, hx134_0, hx134_1⟩ := at_T29 HR0.out t130 p134 q134; cases e134; replace hx134_0 := hcx HB hx134_0; replace hx134_1 := hcx HB hx134_1; replace p134 := eq_true p134; replace q134 := eq_true q134; have q25 : (t130 : Int) ≤ ((l0.length : Int) : Int) := of_decide_eq_true (by first | (with_reducible assumption) | assumption); obtain ⟨i025, hi025, _, hsz25, _⟩ := info_parts info29; have hroom25 : l0.length ≤ c0 := HC0.out; have hC25 : Kd.C k29 _ (some ad134) l0.length l0 := HR0.out; have hcut25 := cut_to (P := Try.prog) 23 29 .i64 Try.underlying23 hi025 (some ad134) l0.length c0 t130 (of_decide_eq_true (by first | (with_reducible assumption) | assumption)) q25 hroom25; have hr25 := Kd.C_take (m := (t130 : Int).toNat) hC25 (by omega); have hy25 : y135.length = (t130 : Int).toNat := (by rw [Ny135.out, List.length_take]; omega); rw [← Ny135.out] at hr25; rw [← hy25] at hcut25; have HR138 := Aside0.mk hr25; have HC138 := Aside0.mk (show y135.length ≤ c0 from by omega); clear hr25 hC25 hroom25 hi025 hsz25; have KY25 := Aside0.mk hy25; clear hy25; replace q25 := eq_true q25) | ((with_reducible refine gate_builtin (b := .append) (xs := #[.tmp 32, .tmp 35]) rfl ?_); at_builtin; refine Kd.R_append_rows k29 (w0 := w) w.heap.size rfl (.tmp 32) (.tmp 35) 23 29 (.agg #[(.string ⟨#[]⟩), (.int .i64 0)]) 24 rfl Try.underlying23 info29 rfl (by decide) (by omega) v127 y126 y135 _ _ _ (fun _ => True) (fun _ => False) rfl rfl ?aO ?aR (fun _ _ h => h) (fun _ h => h.elim) ?aF ?aB ?aS ?aL ?_; (case aR => exact spec_PairDrop.s0 HR138.out HB.out); (case aB => exact (bp HB.out)); (case aF => exact (fun _ _ => trivial)); (case aO => exact (kr HO128.out)); (case aS => exact (below_size (bp HB.out))); (case aL => have := LMc17.out; omega); intro v140 w26 ho hb hg hat; rw [← Ny139.out] at ho; have n0_ := Aside0.mk (hb); have n1_ := Aside0.mk (ho); clear HB; clear HO128; have HB := n0_; have HO141 := n1_; clear n0_ n1_; clear ho hb hg hat; have q27 : ((ji18) : Int) ≤ ((l0.length : Int) : Int) := of_decide_eq_true (by first | (with_reducible assumption) | assumption); obtain ⟨i027, hi027, _, hsz27, _⟩ := info_parts info29; have hroom27 : l0.length ≤ c0 := HC0.out; have hC27 : Kd.C k29 _ (some ad134) l0.length l0 := HR0.out; have q027 : (0 : Int) ≤ ((ji18) : Int) := of_decide_eq_true (by first | (with_reducible assumption) | assumption); have hcut27 := cut_from (P := Try.prog) 23 29 .i64 Try.underlying23 hi027 2 hsz27 (some ad134) l0.length c0 (ji18) q027 q27; have hr27 := Kd.C_drop (m := ((ji18) : Int).toNat) (c := c0) hC27 (by omega) hroom27; obtain ⟨A27, hA27⟩ : ∃ A_, A_ = (if c0 = ((ji18) : Int).toNat then (some ad134) else ((some ad134) : Option Addr).map (·.add (((ji18) : Int).toNat * 2))) := ⟨_, rfl⟩; obtain ⟨c27, hc27⟩ : ∃ c_, c_ = c0 - ((ji18) : Int).toNat := ⟨_, rfl⟩; have hy27 : y142.length = l0.length - ((ji18) : Int).toNat := (by rw [Ny142.out, List.length_drop] <;> omega); rw [show (l0).drop ((ji18) : Int).toNat = y142 from Ny142.out.symm] at hr27; replace hr27 : Kd.C k29 _ A27 y142.length y142 := (by rw [hA27]; exact hr27); rw [← hy27, ← hA27, ← hc27] at hcut27; have HR145 := Aside0.mk hr27; have HC145 := Aside0.mk (show y142.length ≤ c27 from by rw [hy27, hc27]; exact Nat.sub_le_sub_right hroom27 _); clear hr27 hC27 hroom27 hi027 hsz27 hc27; have KY27 := Aside0.mk hy27; have KA27 := Aside0.mk hA27; clear hy27 hA27; replace q27 := eq_true q27) | ((with_reducible refine gate_builtin (b := .append) (xs := #[.tmp 37, .tmp 41]) rfl ?_); at_builtin; refine Kd.R_append_rows k29 (w0 := w) w.heap.size rfl (.tmp 37) (.tmp 41) 23 29 (.agg #[(.string ⟨#[]⟩), (.int .i64 0)]) 24 rfl Try.underlying23 info29 rfl (by decide) (by omega) v140 y139 y142 _ _ _ (fun _ => True) (fun _ => False) rfl rfl ?aO ?aR (fun _ _ h => h) (fun _ h => h.elim) ?aF ?aB ?aS ?aL ?_; (case aR => exact cc (Kd.C_below HR145.out HB.out)); (case aB => exact (bp HB.out)); (case aF => exact (fun _ _ => trivial)); (case aO => exact (kr HO141.out)); (case aS => exact (below_size (bp HB.out))); (case aL => have := LMc21.out; omega); intro v147 w28 ho hb hg hat; rw [← Ny146.out] at ho; have n0_ := Aside0.mk (hb); have n1_ := Aside0.mk (ho); clear HB; clear HO141; have HB := n0_; have HO148 := n1_; clear n0_ n1_; clear ho hb hg hat))
                      go_ret2
                      exact ⟨_, by first | rfl | (simp [errW_none, errW_some] <;> rfl) | (simp only [← hji18]; first | rfl | (simp [errW_none, errW_some] <;> rfl)) | (simp [*, errW_none, errW_some] <;> rfl) | (simp only [IntKind.wrap_u8, show ∀ n_ : Int, wrap64 (n_ % 256) = n_ % 256 from fun n_ => by unfold wrap64; omega]; rfl), by (with_reducible repeat (first | apply Kd.R_alloc | apply Kd.R_drewN | apply Kd.R_drew)); exact HO148.out, bp HB.out⟩
                    · rw [if_neg c21] at H
                      exact absurd H (by simp)
                  · rw [if_neg c20] at H
                    exact absurd H (by simp)
                · rw [if_neg c19] at H
                  exact absurd H (by simp)
              · rw [if_neg c17] at H
                exact absurd H (by simp)
            · rw [if_neg c16] at H
              exact absurd H (by simp)
          · rw [if_neg c14] at H
            have c14b0 : (((rd_T29 l0 t130).f0).toList == a1.toList) = false := beq_eq_false_iff_ne.mpr c14
            have c14b1 : (((rd_T29 l0 t130).f0).toList != a1.toList) = true := bne_iff_ne.mpr c14
            by_cases c29 : y126.length + l0.length < 5864062014805
            · rw [if_pos c29] at H
              have LMc29 := Aside0.mk c29
              clear c29
              obtain ⟨y149, hy149⟩ : ∃ y_ : List (S29), y_ = (y126 ++ l0) := ⟨_, rfl⟩
              replace H : (some (y149, false)) = some (r1, r2) := by first | (rw [hy149]; with_reducible exact H) | (have H2_ := (Option.bind_some _ _).symm.trans H; rw [hy149]; with_reducible exact H2_) | (have H2_ := (Option.bind_some _ _).symm.trans H; with_reducible exact H2_) | with_reducible exact H | (rw [hy149]; exact H) | exact H
              have Ny149 := Aside0.mk hy149
              clear hy149
              simp only [Option.some.injEq, Prod.mk.injEq] at H
              obtain ⟨rfl, rfl⟩ := H
              go_enter Try.func92, Try.ntmps92
              go_wp2_with (first | ((with_reducible refine gate_dst (N := 8) rfl ?_); refine Kd.R_lit k29 _ 29 ?hg (N := 8) ?hd (xs := ([] : List (S29))) (inner := []) (ok := fun _ => True) (okp := fun _ => True) ?hr ?hp (fun _ hk => hk) trivial (Below.refl _ _) (Nat.le_refl _) (by simp) ?_; (case hd => rfl); (case hg => rfl); (case hr => first | (go_simp; done) | (go_simp; rfl)); (case hp => exact (Reps.none _ _)); intro v127 w30 ho31 hb hg_ hnew_; clear hg_ hnew_; (first | rw [← Ny126.out] at ho31 | (simp only [Int.reduceToNat] at ho31; rw [← Ny126.out] at ho31)); have n0_ := Aside0.mk (Kd.R_lower ho31 (below_size (bp HB.out))); have n1_ := an0 HB hb; clear HB; have HO128 := n0_; have HB := n1_; clear n0_ n1_; clear hb ho31) | ((with_reducible refine gate_callee (f := 72) rfl ?_); refine gsl (some 10) rfl Try.func72 #[.slice A0 l0.length c0] rfl ?_; (with_reducible refine (spec_PairsValid.calls k _ _ l0 true _ ?side1 ?side2 A3.out).mono ?_); (case side1 => exact cc (Kd.C_below HR0.out HB.out)); (case side2 => exact HC0.out); rintro e w32 ⟨rfl, hb⟩; refine ⟨_, rfl, ?_⟩; have n0_ := Aside0.mk (Kd.R_below (kr HO128.out) hb); have n1_ := an0 HB hb; clear HO128; clear HB; have HO128 := n0_; have HB := n1_; clear n0_ n1_; (try clear hb); (try clear hb2); (try clear hk); (try clear hi)) | ((with_reducible refine gate_callee (f := 136) rfl ?_); refine gsl (some 15) rfl Try.func136 #[.slice A0 l0.length c0, .string a1] rfl ?_; (with_reducible refine (spec_l4Place.calls k _ _ l0 a1 t130 _ ?side1 ?side2 A5.out).mono ?_); (case side1 => exact cc (Kd.C_below HR0.out HB.out)); (case side2 => exact HC0.out); rintro e w' ⟨rfl, ⟨nd, rfl⟩⟩; refine ⟨_, rfl, ?_⟩; have p134 : 0 ≤ (t130 : Int) := of_decide_eq_true (by first | (with_reducible assumption) | assumption); have q134 : t130 < (l0.length : Int) := of_decide_eq_true (by first | (with_reducible assumption) | assumption); obtain ⟨ad134, e134, hx134_0, hx134_1⟩ := at_T29 HR0.out t130 p134 q134; cases e134; replace hx134_0 := hcx HB hx134_0; replace hx134_1 := hcx HB hx134_1; replace p134 := eq_true p134; replace q134 := eq_true q134) | ((with_reducible refine gate_builtin (b := .append) (xs := #[.tmp 29, .tmp 30]) rfl ?_); at_builtin; refine Kd.R_append_rows k29 (w0 := w) w.heap.size rfl (.tmp 29) (.tmp 30) 23 29 (.agg #[(.string ⟨#[]⟩), (.int .i64 0)]) 24 rfl Try.underlying23 info29 rfl (by decide) (by omega) v127 y126 l0 _ _ _ (fun _ => True) (fun _ => False) rfl rfl ?aO ?aR (fun _ _ h => h) (fun _ h => h.elim) ?aF ?aB ?aS ?aL ?_; (case aR => exact spec_PairDrop.s0 HR0.out HB.out); (case aB => exact (bp HB.out)); (case aF => exact (fun _ _ => trivial)); (case aO => exact (kr HO128.out)); (case aS => exact (below_size (bp HB.out))); (case aL => have := LMc29.out; omega); intro v150 w33 ho hb hg hat; rw [← Ny149.out] at ho; have n0_ := Aside0.mk (hb); have n1_ := Aside0.mk (ho); clear HB; clear HO128; have HB := n0_; have HO151 := n1_; clear n0_ n1_; clear ho hb hg hat))
              go_ret2
              exact ⟨_, fe, by (with_reducible repeat (first | apply Kd.R_alloc | apply Kd.R_drewN | apply Kd.R_drew)); exact HO151.out, bp HB.out⟩
            · rw [if_neg c29] at H
              exact absurd H (by simp)
        · rw [if_neg c13] at H
          exact absurd H (by simp)
      · rw [if_neg c12] at H
        exact absurd H (by simp)
  · replace c4 := Bool.eq_false_iff.mpr c4
    subst c4
    have H1 : (some (y126, false)) = some (r1, r2) := by rw [if_neg (show ¬ (false = true) by decide)] at H; exact H
    clear H
    have H := H1
    clear H1
    simp only [Option.some.injEq, Prod.mk.injEq] at H
    obtain ⟨rfl, rfl⟩ := H
    go_enter Try.func92, Try.ntmps92
    go_wp2_with (first | ((with_reducible refine gate_dst (N := 8) rfl ?_); refine Kd.R_lit k29 _ 29 ?hg (N := 8) ?hd (xs := ([] : List (S29))) (inner := []) (ok := fun _ => True) (okp := fun _ => True) ?hr ?hp (fun _ hk => hk) trivial (Below.refl _ _) (Nat.le_refl _) (by simp) ?_; (case hd => rfl); (case hg => rfl); (case hr => first | (go_simp; done) | (go_simp; rfl)); (case hp => exact (Reps.none _ _)); intro v127 w34 ho35 hb hg_ hnew_; clear hg_ hnew_; (first | rw [← Ny126.out] at ho35 | (simp only [Int.reduceToNat] at ho35; rw [← Ny126.out] at ho35)); have n0_ := Aside0.mk (Kd.R_lower ho35 (below_size (bp HB.out))); have n1_ := an0 HB hb; clear HB; have HO128 := n0_; have HB := n1_; clear n0_ n1_; clear hb ho35) | ((with_reducible refine gate_callee (f := 72) rfl ?_); refine gsl (some 10) rfl Try.func72 #[.slice A0 l0.length c0] rfl ?_; (with_reducible refine (spec_PairsValid.calls k _ _ l0 false _ ?side1 ?side2 A3.out).mono ?_); (case side1 => exact cc (Kd.C_below HR0.out HB.out)); (case side2 => exact HC0.out); rintro e w36 ⟨rfl, hb⟩; refine ⟨_, rfl, ?_⟩; have n0_ := Aside0.mk (Kd.R_below (kr HO128.out) hb); have n1_ := an0 HB hb; clear HO128; clear HB; have HO128 := n0_; have HB := n1_; clear n0_ n1_; (try clear hb); (try clear hb2); (try clear hk); (try clear hi)))
    go_ret2
    exact ⟨_, fe, by (with_reducible repeat (first | apply Kd.R_alloc | apply Kd.R_drewN | apply Kd.R_drew)); exact HO128.out, bp HB.out⟩

/-! ### spec_PairPut: function 93 -/
mutual
def spec_PairPut.j0 : Nat → List (S29) → ByteArray → Int → List (S29) → Bool → Option ((List (S29)) × Bool)
  | 0, _, _, _, _, _ => none
  | k + 1, x0, x1, x2, x8, x23 => if x23 = true then (some (x8, false)) else ((spec_l4Place.f k x0 x1).bind fun t158 => (if t158 < (x0.length : Int) then (if 0 ≤ t158 then (spec_PairPut.j1 k x0 x1 x2 x8 t158 (((rd_T29 x0 t158).f0).toList == x1.toList)) else (none)) else (spec_PairPut.j1 k x0 x1 x2 x8 t158 false)))
def spec_PairPut.j1 : Nat → List (S29) → ByteArray → Int → List (S29) → Int → Bool → Option ((List (S29)) × Bool)
  | 0, _, _, _, _, _, _ => none
  | k + 1, x0, x1, x2, x8, x9, x40 => if x40 = true then (if x8.length + x0.length < 5864062014805 then ((some (x8 ++ x0 : List (S29))).bind fun y160 => (if 0 ≤ x9 then (if x9 < (y160.length : Int) then (some ((y160.set (x9 : Int).toNat (⟨(rd_T29 y160 x9).f0, x2⟩ : S29)), true)) else (none)) else (none))) else (none)) else (if (x0.length : Int) ≥ 48 then (if x8.length + x0.length < 5864062014805 then (some ((x8 ++ x0), false)) else (none)) else (if 0 ≤ x9 then (if x9 ≤ (x0.length : Int) then ((some (x0.take (x9 : Int).toNat : List (S29))).bind fun y167 => (if x8.length + y167.length < 5864062014805 then ((some (x8 ++ y167 : List (S29))).bind fun y171 => (if y171.length < 5864062014805 then ((some (y171 ++ [(⟨x1, x2⟩ : S29)] : List (S29))).bind fun y174 => ((some (x0.drop (x9 : Int).toNat : List (S29))).bind fun y177 => (if y174.length + y177.length < 5864062014805 then (some ((y174 ++ y177), true)) else (none)))) else (none))) else (none))) else (none)) else (none)))
end
def spec_PairPut.f (k : Nat) (l0 : List (S29)) (a1 : ByteArray) (a2 : Int) : Option ((List (S29)) × Bool) := (some (([] : List (S29)) : List (S29))).bind fun y152 => ((spec_PairsValid.f k l0).bind fun t155 => (if t155 = true then ((spec_KeyValid.f k a1).bind fun t156 => (if t156 = true then ((spec_l1In.f a2 0 999).bind fun t157 => (spec_PairPut.j0 k l0 a1 a2 y152 (!t157))) else (spec_PairPut.j0 k l0 a1 a2 y152 true))) else (spec_PairPut.j0 k l0 a1 a2 y152 true)))
theorem spec_PairPut.mono_l : ∀ k, (∀ y0 y1 y2 y3 y4, LeO (spec_PairPut.j0 k y0 y1 y2 y3 y4) (spec_PairPut.j0 (k + 1) y0 y1 y2 y3 y4)) ∧ (∀ y0 y1 y2 y3 y4 y5, LeO (spec_PairPut.j1 k y0 y1 y2 y3 y4 y5) (spec_PairPut.j1 (k + 1) y0 y1 y2 y3 y4 y5))
  | 0 => ⟨fun _ _ _ _ _ r h => by simp [spec_PairPut.j0] at h, fun _ _ _ _ _ _ r h => by simp [spec_PairPut.j1] at h⟩
  | k + 1 => by
    obtain ⟨ih0, ih1⟩ := spec_PairPut.mono_l k
    refine ⟨?_, ?_⟩
    · intro y0 y1 y2 y3 y4
      unfold spec_PairPut.j0
      repeat' first
      | (with_reducible exact ih0 _ _ _ _ _)
      | (with_reducible exact ih1 _ _ _ _ _ _)
      | (with_reducible exact spec_KeyValid.mono _ _)
      | (with_reducible exact spec_PairsValid.mono _ _)
      | (with_reducible exact spec_l4Place.mono _ _ _)
      | (with_reducible exact LeO.refl _)
      | (with_reducible exact LeO.none _)
      | (with_reducible refine LeO.ite ?_ ?_)
      | (with_reducible refine LeO.bind ?_ (fun _ => ?_))
      | exact ih0 _ _ _ _ _
      | exact ih1 _ _ _ _ _ _
      | exact spec_KeyValid.mono _ _
      | exact spec_PairsValid.mono _ _
      | exact spec_l4Place.mono _ _ _
      | exact LeO.none _
      | refine LeO.ite ?_ ?_
      | refine LeO.bind ?_ (fun _ => ?_)
    · intro y0 y1 y2 y3 y4 y5
      unfold spec_PairPut.j1
      repeat' first
      | (with_reducible exact ih0 _ _ _ _ _)
      | (with_reducible exact ih1 _ _ _ _ _ _)
      | (with_reducible exact spec_KeyValid.mono _ _)
      | (with_reducible exact spec_PairsValid.mono _ _)
      | (with_reducible exact spec_l4Place.mono _ _ _)
      | (with_reducible exact LeO.refl _)
      | (with_reducible exact LeO.none _)
      | (with_reducible refine LeO.ite ?_ ?_)
      | (with_reducible refine LeO.bind ?_ (fun _ => ?_))
      | exact ih0 _ _ _ _ _
      | exact ih1 _ _ _ _ _ _
      | exact spec_KeyValid.mono _ _
      | exact spec_PairsValid.mono _ _
      | exact spec_l4Place.mono _ _ _
      | exact LeO.none _
      | refine LeO.ite ?_ ?_
      | refine LeO.bind ?_ (fun _ => ?_)
theorem spec_PairPut.mono : ∀ a0 a1 a2 k, LeO (spec_PairPut.f k a0 a1 a2) (spec_PairPut.f (k + 1) a0 a1 a2) := by
  intro a0 a1 a2 k
  obtain ⟨ih0, ih1⟩ := spec_PairPut.mono_l k
  unfold spec_PairPut.f
  repeat' first
      | (with_reducible exact ih0 _ _ _ _ _)
      | (with_reducible exact ih1 _ _ _ _ _ _)
      | (with_reducible exact spec_KeyValid.mono _ _)
      | (with_reducible exact spec_PairsValid.mono _ _)
      | (with_reducible exact spec_l4Place.mono _ _ _)
      | (with_reducible exact LeO.refl _)
      | (with_reducible exact LeO.none _)
      | (with_reducible refine LeO.ite ?_ ?_)
      | (with_reducible refine LeO.bind ?_ (fun _ => ?_))
      | exact ih0 _ _ _ _ _
      | exact ih1 _ _ _ _ _ _
      | exact spec_KeyValid.mono _ _
      | exact spec_PairsValid.mono _ _
      | exact spec_l4Place.mono _ _ _
      | exact LeO.none _
      | refine LeO.ite ?_ ?_
      | refine LeO.bind ?_ (fun _ => ?_)
set_option maxHeartbeats 8000000 in
set_option maxRecDepth 100000 in
theorem spec_PairPut.calls (k : Nat) (A0 : Option Addr) (c0 : Nat) (l0 : List (S29)) (a1 : ByteArray) (a2 : Int) (r1 : List (S29)) (r2 : Bool) (w : World) (hr0 : Kd.C k29 w A0 l0.length l0) (hc0 : l0.length ≤ c0) (h : spec_PairPut.f k l0 a1 a2 = some (r1, r2)) :
    Calls Try.prog 93 #[.slice A0 l0.length c0, .string a1, .int .i64 a2] w fun e w' => ∃ v0_ : Value, e = .returned (.tuple #[v0_, .bool r2]) ∧ Kd.R k29 29 w' w.heap.size (fun _ => True) v0_ r1 ∧ Below w.heap.size w w' := by
  have hu29 := Try.underlying29
  have HR0 := Aside0.mk hr0
  have HC0 := Aside0.mk hc0
  clear hr0 hc0
  have HB := Aside0.mk (Below.refl w.heap.size w)
  have H : ((some (([] : List (S29)) : List (S29))).bind fun y152 => ((spec_PairsValid.f k l0).bind fun t155 => (if t155 = true then ((spec_KeyValid.f k a1).bind fun t156 => (if t156 = true then ((spec_l1In.f a2 0 999).bind fun t157 => (spec_PairPut.j0 k l0 a1 a2 y152 (!t157))) else (spec_PairPut.j0 k l0 a1 a2 y152 true))) else (spec_PairPut.j0 k l0 a1 a2 y152 true)))) = some (r1, r2) := h
  clear h
  obtain ⟨y152, hy152⟩ : ∃ y_ : List (S29), y_ = (([] : List (S29))) := ⟨_, rfl⟩
  replace H : ((spec_PairsValid.f k l0).bind fun t155 => (if t155 = true then ((spec_KeyValid.f k a1).bind fun t156 => (if t156 = true then ((spec_l1In.f a2 0 999).bind fun t157 => (spec_PairPut.j0 k l0 a1 a2 y152 (!t157))) else (spec_PairPut.j0 k l0 a1 a2 y152 true))) else (spec_PairPut.j0 k l0 a1 a2 y152 true))) = some (r1, r2) := by first | (rw [hy152]; with_reducible exact H) | (have H2_ := (Option.bind_some _ _).symm.trans H; rw [hy152]; with_reducible exact H2_) | (have H2_ := (Option.bind_some _ _).symm.trans H; with_reducible exact H2_) | with_reducible exact H | (rw [hy152]; exact H) | exact H
  have Ny152 := Aside0.mk hy152
  clear hy152
  have HC4 := Aside0.mk H
  clear H
  go_enter Try.func93, Try.ntmps93
  go_upto_region 2 with (first | ((with_reducible refine gate_dst (N := 10) rfl ?_); refine Kd.R_lit k29 _ 29 ?hg (N := 10) ?hd (xs := ([] : List (S29))) (inner := []) (ok := fun _ => True) (okp := fun _ => True) ?hr ?hp (fun _ hk => hk) trivial (Below.refl _ _) (Nat.le_refl _) (by simp) ?_; (case hd => rfl); (case hg => rfl); (case hr => first | (go_simp; done) | (go_simp; rfl)); (case hp => exact (Reps.none _ _)); intro v153 w5 ho6 hb hg_ hnew_; clear hg_ hnew_; (first | rw [← Ny152.out] at ho6 | (simp only [Int.reduceToNat] at ho6; rw [← Ny152.out] at ho6)); have n0_ := Aside0.mk (Kd.R_lower ho6 (below_size (bp HB.out))); have n1_ := an0 HB hb; clear HB; have HO154 := n0_; have HB := n1_; clear n0_ n1_; clear hb ho6))
  (try simp only [Act.put, List.setIfInBounds_toArray, List.set_cons_zero, List.set_cons_succ])
  go_cut [23] (fun v23 wc => ∃ (kq : Nat) (x23_3 : Bool), v23 = .bool x23_3 ∧ Aside0 (spec_PairPut.j0 kq l0 a1 a2 y152 x23_3 = some (r1, r2)) ∧ Aside0 (kq ≤ k) ∧ Aside0 (Kd.R k29 29 wc w.heap.size (fun _ => True) v153 y152) ∧ Aside0 (Below w.heap.size w wc))
  case first =>
    have H := HC4.out
    clear HC4
    replace H := Option.bind_eq_some_iff.mp H
    obtain ⟨t155, A70, H⟩ := H
    replace H : (if t155 = true then ((spec_KeyValid.f k a1).bind fun t156 => (if t156 = true then ((spec_l1In.f a2 0 999).bind fun t157 => (spec_PairPut.j0 k l0 a1 a2 y152 (!t157))) else (spec_PairPut.j0 k l0 a1 a2 y152 true))) else (spec_PairPut.j0 k l0 a1 a2 y152 true)) = some (r1, r2) := H
    have A7 := Aside0.mk A70
    clear A70
    by_cases c8 : t155 = true
    · subst c8
      have H1 : ((spec_KeyValid.f k a1).bind fun t156 => (if t156 = true then ((spec_l1In.f a2 0 999).bind fun t157 => (spec_PairPut.j0 k l0 a1 a2 y152 (!t157))) else (spec_PairPut.j0 k l0 a1 a2 y152 true))) = some (r1, r2) := by rw [if_pos rfl] at H; exact H
      clear H
      have H := H1
      clear H1
      replace H := Option.bind_eq_some_iff.mp H
      obtain ⟨t156, A90, H⟩ := H
      replace H : (if t156 = true then ((spec_l1In.f a2 0 999).bind fun t157 => (spec_PairPut.j0 k l0 a1 a2 y152 (!t157))) else (spec_PairPut.j0 k l0 a1 a2 y152 true)) = some (r1, r2) := H
      have A9 := Aside0.mk A90
      clear A90
      by_cases c10 : t156 = true
      · subst c10
        have H1 : ((spec_l1In.f a2 0 999).bind fun t157 => (spec_PairPut.j0 k l0 a1 a2 y152 (!t157))) = some (r1, r2) := by rw [if_pos rfl] at H; exact H
        clear H
        have H := H1
        clear H1
        replace H := Option.bind_eq_some_iff.mp H
        obtain ⟨t157, A110, H⟩ := H
        replace H : (spec_PairPut.j0 k l0 a1 a2 y152 (!t157)) = some (r1, r2) := H
        have A11 := Aside0.mk A110
        clear A110
        have H' := Aside0.mk H
        clear H
        go_wp2_with (first | ((with_reducible refine gate_callee (f := 72) rfl ?_); refine gsl (some 12) rfl Try.func72 #[.slice A0 l0.length c0] rfl ?_; (with_reducible refine (spec_PairsValid.calls k _ _ l0 true _ ?side1 ?side2 A7.out).mono ?_); (case side1 => exact cc (Kd.C_below HR0.out HB.out)); (case side2 => exact HC0.out); rintro e w12 ⟨rfl, hb⟩; refine ⟨_, rfl, ?_⟩; have n0_ := Aside0.mk (Kd.R_below (kr HO154.out) hb); have n1_ := an0 HB hb; clear HO154; clear HB; have HO154 := n0_; have HB := n1_; clear n0_ n1_; (try clear hb); (try clear hb2); (try clear hk); (try clear hi)) | (go_at_call 113; (with_reducible refine (spec_KeyValid.calls k a1 true _ A9.out).mono ?_); rintro e w' ⟨rfl, ⟨nd, rfl⟩⟩) | (go_at_call 112; (with_reducible refine (spec_l1In.calls a2 0 999 t157 _ A11.out).mono ?_); rintro e w' ⟨rfl, ⟨nd, rfl⟩⟩))
        go_meet
        case rel => exact ⟨_, (!t157), (by first | rfl | (simp; done) | (simp [*]; done) | (simp [bne_nil_, beq_nil_]; done)), H', ⟨by first | omega | exact Nat.le_refl _⟩, ⟨by (with_reducible repeat (first | apply Kd.R_alloc | apply Kd.R_drewN | apply Kd.R_drew)); exact HO154.out⟩, ⟨bp HB.out⟩⟩
      · replace c10 := Bool.eq_false_iff.mpr c10
        subst c10
        have H1 : (spec_PairPut.j0 k l0 a1 a2 y152 true) = some (r1, r2) := by rw [if_neg (show ¬ (false = true) by decide)] at H; exact H
        clear H
        have H := H1
        clear H1
        have H' := Aside0.mk H
        clear H
        go_wp2_with (first | ((with_reducible refine gate_callee (f := 72) rfl ?_); refine gsl (some 12) rfl Try.func72 #[.slice A0 l0.length c0] rfl ?_; (with_reducible refine (spec_PairsValid.calls k _ _ l0 true _ ?side1 ?side2 A7.out).mono ?_); (case side1 => exact cc (Kd.C_below HR0.out HB.out)); (case side2 => exact HC0.out); rintro e w13 ⟨rfl, hb⟩; refine ⟨_, rfl, ?_⟩; have n0_ := Aside0.mk (Kd.R_below (kr HO154.out) hb); have n1_ := an0 HB hb; clear HO154; clear HB; have HO154 := n0_; have HB := n1_; clear n0_ n1_; (try clear hb); (try clear hb2); (try clear hk); (try clear hi)) | (go_at_call 113; (with_reducible refine (spec_KeyValid.calls k a1 false _ A9.out).mono ?_); rintro e w' ⟨rfl, ⟨nd, rfl⟩⟩))
        go_meet
        case rel => exact ⟨_, (true), (by first | rfl | (simp; done) | (simp [*]; done) | (simp [bne_nil_, beq_nil_]; done)), H', ⟨by first | omega | exact Nat.le_refl _⟩, ⟨by (with_reducible repeat (first | apply Kd.R_alloc | apply Kd.R_drewN | apply Kd.R_drew)); exact HO154.out⟩, ⟨bp HB.out⟩⟩
    · replace c8 := Bool.eq_false_iff.mpr c8
      subst c8
      have H1 : (spec_PairPut.j0 k l0 a1 a2 y152 true) = some (r1, r2) := by rw [if_neg (show ¬ (false = true) by decide)] at H; exact H
      clear H
      have H := H1
      clear H1
      have H' := Aside0.mk H
      clear H
      go_wp2_with (first | ((with_reducible refine gate_callee (f := 72) rfl ?_); refine gsl (some 12) rfl Try.func72 #[.slice A0 l0.length c0] rfl ?_; (with_reducible refine (spec_PairsValid.calls k _ _ l0 false _ ?side1 ?side2 A7.out).mono ?_); (case side1 => exact cc (Kd.C_below HR0.out HB.out)); (case side2 => exact HC0.out); rintro e w14 ⟨rfl, hb⟩; refine ⟨_, rfl, ?_⟩; have n0_ := Aside0.mk (Kd.R_below (kr HO154.out) hb); have n1_ := an0 HB hb; clear HO154; clear HB; have HO154 := n0_; have HB := n1_; clear n0_ n1_; (try clear hb); (try clear hb2); (try clear hk); (try clear hi)))
      go_meet
      case rel => exact ⟨_, (true), (by first | rfl | (simp; done) | (simp [*]; done) | (simp [bne_nil_, beq_nil_]; done)), H', ⟨by first | omega | exact Nat.le_refl _⟩, ⟨by (with_reducible repeat (first | apply Kd.R_alloc | apply Kd.R_drewN | apply Kd.R_drew)); exact HO154.out⟩, ⟨bp HB.out⟩⟩
  case rest =>
    clear HC4
    try clear c1
    try clear p2
    try clear c7
    try clear c8
    try clear c9
    try clear c10
    obtain ⟨kq, x23_3, rfl, HA, HJ3, HO_8, HB⟩ := hcut
    cases kq with
    | zero => exact absurd HA.out (by simp [spec_PairPut.j0])
    | succ kj3 =>
      have H := HA.out
      clear HA
      simp only [spec_PairPut.j0] at H
      by_cases c15 : x23_3 = true
      · subst c15
        have H1 : (some (y152, false)) = some (r1, r2) := by rw [if_pos rfl] at H; exact H
        clear H
        have H := H1
        clear H1
        simp only [Option.some.injEq, Prod.mk.injEq] at H
        obtain ⟨rfl, rfl⟩ := H
        go_wp2
        go_ret2
        exact ⟨_, fe, by (with_reducible repeat (first | apply Kd.R_alloc | apply Kd.R_drewN | apply Kd.R_drew)); exact HO_8.out, bp HB.out⟩
      · replace c15 := Bool.eq_false_iff.mpr c15
        subst c15
        have H1 : ((spec_l4Place.f kj3 l0 a1).bind fun t158 => (if t158 < (l0.length : Int) then (if 0 ≤ t158 then (spec_PairPut.j1 kj3 l0 a1 a2 y152 t158 (((rd_T29 l0 t158).f0).toList == a1.toList)) else (none)) else (spec_PairPut.j1 kj3 l0 a1 a2 y152 t158 false))) = some (r1, r2) := by rw [if_neg (show ¬ (false = true) by decide)] at H; exact H
        clear H
        have H := H1
        clear H1
        replace H := Option.bind_eq_some_iff.mp H
        obtain ⟨t158, A160, H⟩ := H
        replace H : (if t158 < (l0.length : Int) then (if 0 ≤ t158 then (spec_PairPut.j1 kj3 l0 a1 a2 y152 t158 (((rd_T29 l0 t158).f0).toList == a1.toList)) else (none)) else (spec_PairPut.j1 kj3 l0 a1 a2 y152 t158 false)) = some (r1, r2) := H
        have A16 := Aside0.mk A160
        clear A160
        have HC17 := Aside0.mk H
        clear H
        go_upto_region 5 with (first | ((with_reducible refine gate_callee (f := 136) rfl ?_); refine gsl (some 27) rfl Try.func136 #[.slice A0 l0.length c0, .string a1] rfl ?_; (with_reducible refine (spec_l4Place.calls kj3 _ _ l0 a1 t158 _ ?side1 ?side2 A16.out).mono ?_); (case side1 => exact cc (Kd.C_below HR0.out HB.out)); (case side2 => exact HC0.out); rintro e w' ⟨rfl, ⟨nd, rfl⟩⟩; refine ⟨_, rfl, ?_⟩))
        (try simp only [Act.put, List.setIfInBounds_toArray, List.set_cons_zero, List.set_cons_succ])
        go_cut [40] (fun v40 wc => ∃ (kq : Nat) (x40_16 : Bool), v40 = .bool x40_16 ∧ Aside0 (spec_PairPut.j1 kq l0 a1 a2 y152 t158 x40_16 = some (r1, r2)) ∧ Aside0 (kq ≤ kj3) ∧ Aside0 (Kd.R k29 29 wc w.heap.size (fun _ => True) v153 y152) ∧ Aside0 (Below w.heap.size w wc))
        case first =>
          have H := HC17.out
          clear HC17
          by_cases c18 : t158 < (l0.length : Int)
          · rw [if_pos c18] at H
            have c18b0 : decide (t158 < (l0.length : Int)) = true := decide_eq_true c18
            clear c18
            (first | rw [c18b0] | (simp only [i64_w, i32_w]; rw [c18b0]) | skip)
            by_cases c19 : 0 ≤ t158
            · rw [if_pos c19] at H
              have c19b0 : decide (0 ≤ t158) = true := decide_eq_true c19
              clear c19
              have H' := Aside0.mk H
              clear H
              have p159 : 0 ≤ (t158 : Int) := of_decide_eq_true (by first | (with_reducible assumption) | assumption)
              have q159 : t158 < (l0.length : Int) := of_decide_eq_true (by first | (with_reducible assumption) | assumption)
              obtain ⟨ad159, e159, hx159_0, hx159_1⟩ := at_T29 HR0.out t158 p159 q159
              cases e159
              replace hx159_0 := hcx HB hx159_0
              replace hx159_1 := hcx HB hx159_1
              replace p159 := eq_true p159
              replace q159 := eq_true q159
              go_wp2
              go_meet
              case rel => exact ⟨_, ((((rd_T29 l0 t158).f0).toList == a1.toList)), (by first | rfl | (simp; done) | (simp [*]; done) | (simp [bne_nil_, beq_nil_]; done)), H', ⟨by have := HJ3.out; first | omega | exact Nat.le_refl _⟩, ⟨by (with_reducible repeat (first | apply Kd.R_alloc | apply Kd.R_drewN | apply Kd.R_drew)); exact HO_8.out⟩, ⟨bp HB.out⟩⟩
            · rw [if_neg c19] at H
              exact absurd H (by simp)
          · rw [if_neg c18] at H
            have c18b0 : decide (t158 < (l0.length : Int)) = false := decide_eq_false c18
            clear c18
            (first | rw [c18b0] | (simp only [i64_w, i32_w]; rw [c18b0]) | skip)
            have H' := Aside0.mk H
            clear H
            go_wp2
            go_meet
            case rel => exact ⟨_, (false), (by first | rfl | (simp; done) | (simp [*]; done) | (simp [bne_nil_, beq_nil_]; done)), H', ⟨by have := HJ3.out; first | omega | exact Nat.le_refl _⟩, ⟨by (with_reducible repeat (first | apply Kd.R_alloc | apply Kd.R_drewN | apply Kd.R_drew)); exact HO_8.out⟩, ⟨bp HB.out⟩⟩
        case rest =>
          clear HC17
          try clear c1
          try clear p1
          try clear q1
          try clear hx1
          try clear p2
          try clear p6
          try clear c7
          try clear c8
          try clear c9
          try clear c10
          try clear c13
          try clear c15
          try clear p15
          try clear q15
          try clear hx15
          try clear c18
          try clear c18b0
          try clear c19
          try clear c19b0
          try clear hx159_0
          try clear hx159_1
          try clear p159
          try clear p2
          try clear q159
          obtain ⟨kq, x40_16, rfl, HA, HJ16, HO_8, HB⟩ := hcut
          cases kq with
          | zero => exact absurd HA.out (by simp [spec_PairPut.j1])
          | succ kj16 =>
            have H := HA.out
            clear HA
            simp only [spec_PairPut.j1] at H
            by_cases c20 : x40_16 = true
            · subst c20
              have H1 : (if y152.length + l0.length < 5864062014805 then ((some (y152 ++ l0 : List (S29))).bind fun y160 => (if 0 ≤ t158 then (if t158 < (y160.length : Int) then (some ((y160.set (t158 : Int).toNat (⟨(rd_T29 y160 t158).f0, a2⟩ : S29)), true)) else (none)) else (none))) else (none)) = some (r1, r2) := by rw [if_pos rfl] at H; exact H
              clear H
              have H := H1
              clear H1
              by_cases c21 : y152.length + l0.length < 5864062014805
              · rw [if_pos c21] at H
                have LMc21 := Aside0.mk c21
                clear c21
                obtain ⟨y160, hy160⟩ : ∃ y_ : List (S29), y_ = (y152 ++ l0) := ⟨_, rfl⟩
                replace H : (if 0 ≤ t158 then (if t158 < (y160.length : Int) then (some ((y160.set (t158 : Int).toNat (⟨(rd_T29 y160 t158).f0, a2⟩ : S29)), true)) else (none)) else (none)) = some (r1, r2) := by first | (rw [hy160]; with_reducible exact H) | (have H2_ := (Option.bind_some _ _).symm.trans H; rw [hy160]; with_reducible exact H2_) | (have H2_ := (Option.bind_some _ _).symm.trans H; with_reducible exact H2_) | with_reducible exact H | (rw [hy160]; exact H) | exact H
                have Ny160 := Aside0.mk hy160
                clear hy160
                by_cases c22 : 0 ≤ t158
                · rw [if_pos c22] at H
                  have c22b0 : decide (0 ≤ t158) = true := decide_eq_true c22
                  clear c22
                  by_cases c23 : t158 < (y160.length : Int)
                  · rw [if_pos c23] at H
                    have c23b0 : decide (t158 < (y160.length : Int)) = true := decide_eq_true c23
                    clear c23
                    obtain ⟨y163, hy163⟩ : ∃ y_ : List (S29), y_ = (y160.set (t158 : Int).toNat (⟨(rd_T29 y160 t158).f0, a2⟩ : S29)) := ⟨_, rfl⟩
                    replace H : (some (y163, true)) = some (r1, r2) := by first | (rw [hy163]; with_reducible exact H) | (have H2_ := (Option.bind_some _ _).symm.trans H; rw [hy163]; with_reducible exact H2_) | (have H2_ := (Option.bind_some _ _).symm.trans H; with_reducible exact H2_) | with_reducible exact H | (rw [hy163]; exact H) | exact H
                    have Ny163 := Aside0.mk hy163
                    clear hy163
                    simp only [Option.some.injEq, Prod.mk.injEq] at H
                    obtain ⟨rfl, rfl⟩ := H
                    go_wp2_with (first | ((with_reducible refine gate_builtin (b := .append) (xs := #[.tmp 41, .tmp 42]) rfl ?_); at_builtin; refine Kd.R_append_rows k29 (w0 := w) w.heap.size rfl (.tmp 41) (.tmp 42) 23 29 (.agg #[(.string ⟨#[]⟩), (.int .i64 0)]) 24 rfl Try.underlying23 info29 rfl (by decide) (by omega) v153 y152 l0 _ _ _ (fun _ => True) (fun _ => False) rfl rfl ?aO ?aR (fun _ _ h => h) (fun _ h => h.elim) ?aF ?aB ?aS ?aL ?_; (case aR => exact cc (Kd.C_below HR0.out HB.out)); (case aB => exact (bp HB.out)); (case aF => exact (fun _ _ => trivial)); (case aO => exact (kr HO_8.out)); (case aS => exact (below_size (bp HB.out))); (case aL => have := LMc21.out; omega); intro v161 w25 ho hb hg hat; rw [← Ny160.out] at ho; have n0_ := Aside0.mk (hb); have n1_ := Aside0.mk (ho); clear HB; clear HO_8; have HB := n0_; have HO162 := n1_; clear n0_ n1_; clear ho hb hg hat; have p24 : 0 ≤ (t158 : Int) := of_decide_eq_true (by first | (with_reducible assumption) | assumption); have q24 : (t158 : Int) < ((y160.length : Int) : Int) := of_decide_eq_true (by first | (with_reducible assumption) | assumption); obtain ⟨go24, co24, eo24, gb24, gl24, cl24, HG24⟩ := Kd.R_form HO162.out (by omega); (first | cases eo24 | (injection eo24 with ea_ en_ ec_; (first | subst ea_ | (injection ea_ with ea_; subst ea_)); subst ec_; clear en_)); have GB24 := Aside0.mk gb24; have GG24 := Aside0.mk HG24; clear gb24 gl24 HG24; obtain ⟨ce24, hcl24, hM24, hcc24, hfr24⟩ := Kd.R_elem HO162.out z29 (t158 : Int) p24 q24; obtain rfl := k29_openM hM24; have hx24_0 : w25.cell? ⟨go24, (t158 : Int).toNat * 2, none⟩ = some (.string ((rd_T29 y160 t158).f0)) := hcc24 0 _ rfl; have hx24_1 : w25.cell? ⟨go24, (t158 : Int).toNat * 2 + 1, none⟩ = some (.int .i64 ((rd_T29 y160 t158).f1)) := hcc24 1 _ rfl; have hf24_0 : w25.frozen? ⟨go24, (t158 : Int).toNat * 2, none⟩ = false := hfr24 0; have hf24_1 : w25.frozen? ⟨go24, (t158 : Int).toNat * 2 + 1, none⟩ = false := hfr24 1; clear hcl24 hcc24 hfr24 hM24; replace p24 := eq_true p24; replace q24 := eq_true q24; have HX26 := Aside0.mk (show Kd.R k29 29 w25 w.heap.size (fun _ => True) (.slice (some ⟨go24, 0, none⟩) y160.length co24) y160 from (kr HO162.out)); obtain ⟨ce26, hcl26, hM26, hcc26, hfr26⟩ := Kd.R_elem HX26.out z29 (t158 : Int) (of_decide_eq_true (by first | (with_reducible assumption) | assumption)) (by have h_ : (t158 : Int) < ((y160.length : Int) : Int) := of_decide_eq_true (by first | (with_reducible assumption) | assumption); first | exact h_ | (have e_ := (Kd.R_reads' HO162.out).1; omega) | simpa using h_); obtain rfl := k29_openM hM26; have HP26 := Kd.R_seg HX26.out (t158 : Int) (of_decide_eq_true (by first | (with_reducible assumption) | assumption)) (by have h_ : (t158 : Int) < ((y160.length : Int) : Int) := of_decide_eq_true (by first | (with_reducible assumption) | assumption); first | exact h_ | (have e_ := (Kd.R_reads' HO162.out).1; omega) | simpa using h_) (seg := [.int .i64 a2]) (j := 1) hcl26 hcc26 (show 2 ≤ 2 from by decide) (x' := (⟨(rd_T29 y160 t158).f0, a2⟩ : S29)) (k29_mkM _ _ _ (⟨(rd_T29 y160 t158).f0, a2⟩ : S29) ) (fun _ hk => hk); have hx26_1 := hcc26 1 _ rfl; (try simp only [show (k29).sz = 2 from rfl, Nat.mul_one, Nat.add_zero] at hx26_1); have hf26_1 := hfr26 1; (try simp only [show (k29).sz = 2 from rfl, Nat.mul_one, Nat.add_zero] at hf26_1); clear hcl26 hcc26 hfr26 hM26) | ((with_reducible refine gate_store (t := 3) (p := 48) rfl ?_); refine store_event (t := 3) (p := 48) (v := ?vo_w27) (w1 := (w25.setCell ⟨go24, (t158 : Int).toNat * 2 + 1, none⟩ (.int .i64 a2))) ?hg ?ho ?hn ?hr ?_; (case ho => rfl); (case hg => rfl); (case hn => rfl); (case hr => first | (go_simp; done) | (go_simp; rfl)); intro w27 hw; have hg : w25.grownBy w27 (some go24) := (by rw [hw]; exact HP26.2); have hp_ : Kd.R k29 29 w27 w.heap.size (fun _ => True) (.slice (some ⟨go24, 0, none⟩) y160.length co24) y163 := (by rw [hw, Ny163.out]; exact HP26.1); clear HP26; have n0_ := Aside0.mk (hp_); have n1_ := Aside0.mk ((by rw [hw]; exact below_set (HB.out) GB24.out : Below w.heap.size w w27)); clear HO162; clear HB; have HO162 := n0_; have HB := n1_; clear n0_ n1_; clear hg hw hp_))
                    go_ret2
                    exact ⟨_, fe, by (with_reducible repeat (first | apply Kd.R_alloc | apply Kd.R_drewN | apply Kd.R_drew)); exact HO162.out, bp HB.out⟩
                  · rw [if_neg c23] at H
                    exact absurd H (by simp)
                · rw [if_neg c22] at H
                  exact absurd H (by simp)
              · rw [if_neg c21] at H
                exact absurd H (by simp)
            · replace c20 := Bool.eq_false_iff.mpr c20
              subst c20
              have H1 : (if (l0.length : Int) ≥ 48 then (if y152.length + l0.length < 5864062014805 then (some ((y152 ++ l0), false)) else (none)) else (if 0 ≤ t158 then (if t158 ≤ (l0.length : Int) then ((some (l0.take (t158 : Int).toNat : List (S29))).bind fun y167 => (if y152.length + y167.length < 5864062014805 then ((some (y152 ++ y167 : List (S29))).bind fun y171 => (if y171.length < 5864062014805 then ((some (y171 ++ [(⟨a1, a2⟩ : S29)] : List (S29))).bind fun y174 => ((some (l0.drop (t158 : Int).toNat : List (S29))).bind fun y177 => (if y174.length + y177.length < 5864062014805 then (some ((y174 ++ y177), true)) else (none)))) else (none))) else (none))) else (none)) else (none))) = some (r1, r2) := by rw [if_neg (show ¬ (false = true) by decide)] at H; exact H
              clear H
              have H := H1
              clear H1
              by_cases c28 : (l0.length : Int) ≥ 48
              · rw [if_pos c28] at H
                have c28b0 : decide (48 ≤ (l0.length : Int)) = true := decide_eq_true c28
                have c28b1 : decide (48 ≤ l0.length) = true := decide_eq_true (by omega)
                clear c28
                by_cases c29 : y152.length + l0.length < 5864062014805
                · rw [if_pos c29] at H
                  have LMc29 := Aside0.mk c29
                  clear c29
                  obtain ⟨y164, hy164⟩ : ∃ y_ : List (S29), y_ = (y152 ++ l0) := ⟨_, rfl⟩
                  replace H : (some (y164, false)) = some (r1, r2) := by first | (rw [hy164]; with_reducible exact H) | (have H2_ := (Option.bind_some _ _).symm.trans H; rw [hy164]; with_reducible exact H2_) | (have H2_ := (Option.bind_some _ _).symm.trans H; with_reducible exact H2_) | with_reducible exact H | (rw [hy164]; exact H) | exact H
                  have Ny164 := Aside0.mk hy164
                  clear hy164
                  simp only [Option.some.injEq, Prod.mk.injEq] at H
                  obtain ⟨rfl, rfl⟩ := H
                  go_wp2_with (first | ((with_reducible refine gate_builtin (b := .append) (xs := #[.tmp 53, .tmp 54]) rfl ?_); at_builtin; refine Kd.R_append_rows k29 (w0 := w) w.heap.size rfl (.tmp 53) (.tmp 54) 23 29 (.agg #[(.string ⟨#[]⟩), (.int .i64 0)]) 24 rfl Try.underlying23 info29 rfl (by decide) (by omega) v153 y152 l0 _ _ _ (fun _ => True) (fun _ => False) rfl rfl ?aO ?aR (fun _ _ h => h) (fun _ h => h.elim) ?aF ?aB ?aS ?aL ?_; (case aR => exact cc (Kd.C_below HR0.out HB.out)); (case aB => exact (bp HB.out)); (case aF => exact (fun _ _ => trivial)); (case aO => exact (kr HO_8.out)); (case aS => exact (below_size (bp HB.out))); (case aL => have := LMc29.out; omega); intro v165 w30 ho hb hg hat; rw [← Ny164.out] at ho; have n0_ := Aside0.mk (hb); have n1_ := Aside0.mk (ho); clear HB; clear HO_8; have HB := n0_; have HO166 := n1_; clear n0_ n1_; clear ho hb hg hat))
                  go_ret2
                  exact ⟨_, fe, by (with_reducible repeat (first | apply Kd.R_alloc | apply Kd.R_drewN | apply Kd.R_drew)); exact HO166.out, bp HB.out⟩
                · rw [if_neg c29] at H
                  exact absurd H (by simp)
              · rw [if_neg c28] at H
                have c28b0 : decide (48 ≤ (l0.length : Int)) = false := decide_eq_false c28
                have c28b1 : decide (48 ≤ l0.length) = false := decide_eq_false (by omega)
                clear c28
                by_cases c31 : 0 ≤ t158
                · rw [if_pos c31] at H
                  have c31b0 := eq_true c31
                  have c31b1 : decide (0 ≤ t158) = true := decide_eq_true c31
                  clear c31
                  by_cases c32 : t158 ≤ (l0.length : Int)
                  · rw [if_pos c32] at H
                    have c32b0 := eq_true c32
                    have c32b1 : decide (t158 ≤ (l0.length : Int)) = true := decide_eq_true c32
                    clear c32
                    obtain ⟨y167, hy167⟩ : ∃ y_ : List (S29), y_ = (l0.take (t158 : Int).toNat) := ⟨_, rfl⟩
                    replace H : (if y152.length + y167.length < 5864062014805 then ((some (y152 ++ y167 : List (S29))).bind fun y171 => (if y171.length < 5864062014805 then ((some (y171 ++ [(⟨a1, a2⟩ : S29)] : List (S29))).bind fun y174 => ((some (l0.drop (t158 : Int).toNat : List (S29))).bind fun y177 => (if y174.length + y177.length < 5864062014805 then (some ((y174 ++ y177), true)) else (none)))) else (none))) else (none)) = some (r1, r2) := by first | (rw [hy167]; with_reducible exact H) | (have H2_ := (Option.bind_some _ _).symm.trans H; rw [hy167]; with_reducible exact H2_) | (have H2_ := (Option.bind_some _ _).symm.trans H; with_reducible exact H2_) | with_reducible exact H | (rw [hy167]; exact H) | exact H
                    have Ny167 := Aside0.mk hy167
                    clear hy167
                    by_cases c33 : y152.length + y167.length < 5864062014805
                    · rw [if_pos c33] at H
                      have LMc33 := Aside0.mk c33
                      clear c33
                      obtain ⟨y171, hy171⟩ : ∃ y_ : List (S29), y_ = (y152 ++ y167) := ⟨_, rfl⟩
                      replace H : (if y171.length < 5864062014805 then ((some (y171 ++ [(⟨a1, a2⟩ : S29)] : List (S29))).bind fun y174 => ((some (l0.drop (t158 : Int).toNat : List (S29))).bind fun y177 => (if y174.length + y177.length < 5864062014805 then (some ((y174 ++ y177), true)) else (none)))) else (none)) = some (r1, r2) := by first | (rw [hy171]; with_reducible exact H) | (have H2_ := (Option.bind_some _ _).symm.trans H; rw [hy171]; with_reducible exact H2_) | (have H2_ := (Option.bind_some _ _).symm.trans H; with_reducible exact H2_) | with_reducible exact H | (rw [hy171]; exact H) | exact H
                      have Ny171 := Aside0.mk hy171
                      clear hy171
                      by_cases c34 : y171.length < 5864062014805
                      · rw [if_pos c34] at H
                        have LMc34 := Aside0.mk c34
                        clear c34
                        obtain ⟨y174, hy174⟩ : ∃ y_ : List (S29), y_ = (y171 ++ [(⟨a1, a2⟩ : S29)]) := ⟨_, rfl⟩
                        replace H : ((some (l0.drop (t158 : Int).toNat : List (S29))).bind fun y177 => (if y174.length + y177.length < 5864062014805 then (some ((y174 ++ y177), true)) else (none))) = some (r1, r2) := by first | (rw [hy174]; with_reducible exact H) | (have H2_ := (Option.bind_some _ _).symm.trans H; rw [hy174]; with_reducible exact H2_) | (have H2_ := (Option.bind_some _ _).symm.trans H; with_reducible exact H2_) | with_reducible exact H | (rw [hy174]; exact H) | exact H
                        have Ny174 := Aside0.mk hy174
                        clear hy174
                        have c35b0 := eq_true (of_decide_eq_true (by first | (with_reducible assumption) | assumption) : 0 ≤ t158)
                        have c36b0 := eq_true (of_decide_eq_true (by first | (with_reducible assumption) | assumption) : t158 ≤ (l0.length : Int))
                        obtain ⟨y177, hy177⟩ : ∃ y_ : List (S29), y_ = (l0.drop (t158 : Int).toNat) := ⟨_, rfl⟩
                        replace H : (if y174.length + y177.length < 5864062014805 then (some ((y174 ++ y177), true)) else (none)) = some (r1, r2) := by first | (rw [hy177]; with_reducible exact H) | (have H2_ := (Option.bind_some _ _).symm.trans H; rw [hy177]; with_reducible exact H2_) | (have H2_ := (Option.bind_some _ _).symm.trans H; with_reducible exact H2_) | with_reducible exact H | (rw [hy177]; exact H) | exact H
                        have Ny177 := Aside0.mk hy177
                        clear hy177
                        by_cases c37 : y174.length + y177.length < 5864062014805
                        · rw [if_pos c37] at H
                          have LMc37 := Aside0.mk c37
                          clear c37
                          obtain ⟨y181, hy181⟩ : ∃ y_ : List (S29), y_ = (y174 ++ y177) := ⟨_, rfl⟩
                          replace H : (some (y181, true)) = some (r1, r2) := by first | (rw [hy181]; with_reducible exact H) | (have H2_ := (Option.bind_some _ _).symm.trans H; rw [hy181]; with_reducible exact H2_) | (have H2_ := (Option.bind_some _ _).symm.trans H; with_reducible exact H2_) | with_reducible exact H | (rw [hy181]; exact H) | exact H
                          have Ny181 := Aside0.mk hy181
                          clear hy181
                          simp only [Option.some.injEq, Prod.mk.injEq] at H
                          obtain ⟨rfl, rfl⟩ := H
                          have q38 : (t158 : Int) ≤ ((l0.length : Int) : Int) := of_decide_eq_true (by first | (with_reducible assumption) | assumption)
                          obtain ⟨i038, hi038, _, hsz38, _⟩ := info_parts info29
                          have hroom38 : l0.length ≤ c0 := HC0.out
                          have hC38 : Kd.C k29 _ A0 l0.length l0 := HR0.out
                          have hcut38 := cut_to (P := Try.prog) 23 29 .i64 Try.underlying23 hi038 A0 l0.length c0 t158 (of_decide_eq_true (by first | (with_reducible assumption) | assumption)) q38 hroom38
                          have hr38 := Kd.C_take (m := (t158 : Int).toNat) hC38 (by omega)
                          have hy38 : y167.length = (t158 : Int).toNat := (by rw [Ny167.out, List.length_take]; omega)
                          rw [← Ny167.out] at hr38
                          rw [← hy38] at hcut38
                          have HR170 := Aside0.mk hr38
                          have HC170 := Aside0.mk (show y167.length ≤ c0 from by omega)
                          clear hr38 hC38 hroom38 hi038 hsz38
                          have KY38 := Aside0.mk hy38
                          clear hy38
                          replace q38 := eq_true q38
                          go_wp2_with (first | ((with_reducible refine gate_builtin (b := .append) (xs := #[.tmp 56, .tmp 59]) rfl ?_); at_builtin; refine Kd.R_append_rows k29 (w0 := w) w.heap.size rfl (.tmp 56) (.tmp 59) 23 29 (.agg #[(.string ⟨#[]⟩), (.int .i64 0)]) 24 rfl Try.underlying23 info29 rfl (by decide) (by omega) v153 y152 y167 _ _ _ (fun _ => True) (fun _ => False) rfl rfl ?aO ?aR (fun _ _ h => h) (fun _ h => h.elim) ?aF ?aB ?aS ?aL ?_; (case aR => exact cc (Kd.C_below HR170.out HB.out)); (case aB => exact (bp HB.out)); (case aF => exact (fun _ _ => trivial)); (case aO => exact (kr HO_8.out)); (case aS => exact (below_size (bp HB.out))); (case aL => have := LMc33.out; omega); intro v172 w39 ho hb hg hat; rw [← Ny171.out] at ho; have n0_ := Aside0.mk (hb); have n1_ := Aside0.mk (ho); clear HB; clear HO_8; have HB := n0_; have HO173 := n1_; clear n0_ n1_; clear ho hb hg hat) | ((with_reducible refine gate_builtin (b := .append) (xs := #[.tmp 61, .tmp 65]) rfl ?_); at_builtin; refine Kd.R_append k29 (w0 := w) w.heap.size rfl (.tmp 61) (.tmp 65) 23 29 (.agg #[(.string ⟨#[]⟩), (.int .i64 0)]) 24 rfl Try.underlying23 info29 rfl (by decide) (by omega) v172 y171 (⟨a1, a2⟩ : S29) [.string a1, .int .i64 a2] (fun _ => True) (fun _ => False) rfl rfl ?aP (fun _ hk => hk.elim) ?aF ?aO ?aB ?aS ?aL ?_; (case aP => exact k29_mkM _ _ _ (⟨a1, a2⟩ : S29)); (case aB => exact (bp HB.out)); (case aF => exact (fun _ _ => trivial)); (case aO => exact (kr HO173.out)); (case aS => exact (below_size (bp HB.out))); (case aL => have := LMc34.out; omega); intro v175 w40 ho hb hg hat; rw [← Ny174.out] at ho; have n0_ := Aside0.mk (hb); have n1_ := Aside0.mk (ho); clear HB; clear HO173; have HB := n0_; have HO176 := n1_; clear n0_ n1_; clear ho hb hg hat; have q41 : (t158 : Int) ≤ ((l0.length : Int) : Int) := of_decide_eq_true (by first | (with_reducible assumption) | assumption); obtain ⟨i041, hi041, _, hsz41, _⟩ := info_parts info29; have hroom41 : l0.length ≤ c0 := HC0.out; have hC41 : Kd.C k29 _ A0 l0.length l0 := HR0.out; have q041 : (0 : Int) ≤ (t158 : Int) := of_decide_eq_true (by first | (with_reducible assumption) | assumption); have hcut41 := cut_from (P := Try.prog) 23 29 .i64 Try.underlying23 hi041 2 hsz41 A0 l0.length c0 t158 q041 q41; have hr41 := Kd.C_drop (m := (t158 : Int).toNat) (c := c0) hC41 (by omega) hroom41; obtain ⟨A41, hA41⟩ : ∃ A_, A_ = (if c0 = (t158 : Int).toNat then A0 else (A0 : Option Addr).map (·.add ((t158 : Int).toNat * 2))) := ⟨_, rfl⟩; obtain ⟨c41, hc41⟩ : ∃ c_, c_ = c0 - (t158 : Int).toNat := ⟨_, rfl⟩; have hy41 : y177.length = l0.length - (t158 : Int).toNat := (by rw [Ny177.out, List.length_drop] <;> omega); rw [show (l0).drop (t158 : Int).toNat = y177 from Ny177.out.symm] at hr41; replace hr41 : Kd.C k29 _ A41 y177.length y177 := (by rw [hA41]; exact hr41); rw [← hy41, ← hA41, ← hc41] at hcut41; have HR180 := Aside0.mk hr41; have HC180 := Aside0.mk (show y177.length ≤ c41 from by rw [hy41, hc41]; exact Nat.sub_le_sub_right hroom41 _); clear hr41 hC41 hroom41 hi041 hsz41 hc41; have KY41 := Aside0.mk hy41; have KA41 := Aside0.mk hA41; clear hy41 hA41; replace q41 := eq_true q41) | ((with_reducible refine gate_builtin (b := .append) (xs := #[.tmp 67, .tmp 70]) rfl ?_); at_builtin; refine Kd.R_append_rows k29 (w0 := w) w.heap.size rfl (.tmp 67) (.tmp 70) 23 29 (.agg #[(.string ⟨#[]⟩), (.int .i64 0)]) 24 rfl Try.underlying23 info29 rfl (by decide) (by omega) v175 y174 y177 _ _ _ (fun _ => True) (fun _ => False) rfl rfl ?aO ?aR (fun _ _ h => h) (fun _ h => h.elim) ?aF ?aB ?aS ?aL ?_; (case aR => exact cc (Kd.C_below HR180.out HB.out)); (case aB => exact (bp HB.out)); (case aF => exact (fun _ _ => trivial)); (case aO => exact (kr HO176.out)); (case aS => exact (below_size (bp HB.out))); (case aL => have := LMc37.out; omega); intro v182 w42 ho hb hg hat; rw [← Ny181.out] at ho; have n0_ := Aside0.mk (hb); have n1_ := Aside0.mk (ho); clear HB; clear HO176; have HB := n0_; have HO183 := n1_; clear n0_ n1_; clear ho hb hg hat))
                          go_ret2
                          exact ⟨_, fe, by (with_reducible repeat (first | apply Kd.R_alloc | apply Kd.R_drewN | apply Kd.R_drew)); exact HO183.out, bp HB.out⟩
                        · rw [if_neg c37] at H
                          exact absurd H (by simp)
                      · rw [if_neg c34] at H
                        exact absurd H (by simp)
                    · rw [if_neg c33] at H
                      exact absurd H (by simp)
                  · rw [if_neg c32] at H
                    exact absurd H (by simp)
                · rw [if_neg c31] at H
                  exact absurd H (by simp)

end Go.Proofs.Ytfeeifefmenlmaa.PFnExactApplyFeed
