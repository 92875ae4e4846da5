-- Written by a program of this session, in the manner of the kit's print (wip/pp.py): functions and their contracts.
import Derived.Test.YtfeeifefmenlmaaPFnRealTimex0
import Derived.Test.YtfeeifefmenlmaaPFnRealTimex2
import Derived.Test.YtfeeifefmenlmaaPFnRealTimex3
namespace Go.Proofs.Ytfeeifefmenlmaa.PFnRealTime
open Go.RowKit Go.Proofs.YtfeeifefmenlmaaW.PrintWords Go.Proofs.YtfeeifefmenlmaaW.PrintLast Go.Proofs.YtfeeifefmenlmaaW.PrintMore
attribute [local go_sem] binOp_leq_str binOp_gtr_str binOp_geq_str max2_int min2_int max_two min_two max_three min_three max_four min_four   -- for this text's walks alone
set_option linter.unusedVariables false
set_option linter.unusedSimpArgs false

/-! ### spec_PairGet: function 91 -/
def spec_PairGet.f (k : Nat) (l0 : List (S29)) (a1 : ByteArray) : Option (Int) := (spec_l4Place.f k l0 a1).bind fun t195 => ((spec_PairsValid.f k l0).bind fun t196 => (if t196 = true then (if t195 = (l0.length : Int) then (some (-1)) else (if 0 ≤ t195 then (if t195 < (l0.length : Int) then (if ((rd_T29 l0 t195).f0).toList = a1.toList then (some ((rd_T29 l0 t195).f1)) else (some (-1))) else (none)) else (none))) else (some (-1))))
theorem spec_PairGet.mono : ∀ a0 a1 k, LeO (spec_PairGet.f k a0 a1) (spec_PairGet.f (k + 1) a0 a1) := by
  intro a0 a1 k
  unfold spec_PairGet.f
  repeat' first
      | (with_reducible exact spec_PairsValid.mono _ _)
      | (with_reducible exact spec_l4Place.mono _ _ _)
      | (with_reducible exact LeO.refl _)
      | (with_reducible exact LeO.none _)
      | (with_reducible refine LeO.ite ?_ ?_)
      | (with_reducible refine LeO.bind ?_ (fun _ => ?_))
      | exact spec_PairsValid.mono _ _
      | exact spec_l4Place.mono _ _ _
      | exact LeO.none _
      | refine LeO.ite ?_ ?_
      | refine LeO.bind ?_ (fun _ => ?_)
set_option maxHeartbeats 8000000 in
set_option maxRecDepth 100000 in
theorem spec_PairGet.calls (k : Nat) (A0 : Option Addr) (c0 : Nat) (l0 : List (S29)) (a1 : ByteArray) (r : Int) (w : World) (hr0 : Kd.C k29 w A0 l0.length l0) (hc0 : l0.length ≤ c0) (h : spec_PairGet.f k l0 a1 = some r) :
    Calls Try.prog 91 #[.slice A0 l0.length c0, .string a1] w fun e w' => e = .returned (.int .i64 r) ∧ Below w.heap.size w w' := by
  have HR0 := Aside0.mk hr0
  have HC0 := Aside0.mk hc0
  clear hr0 hc0
  have HB := Aside0.mk (Below.refl w.heap.size w)
  have H : ((spec_l4Place.f k l0 a1).bind fun t195 => ((spec_PairsValid.f k l0).bind fun t196 => (if t196 = true then (if t195 = (l0.length : Int) then (some (-1)) else (if 0 ≤ t195 then (if t195 < (l0.length : Int) then (if ((rd_T29 l0 t195).f0).toList = a1.toList then (some ((rd_T29 l0 t195).f1)) else (some (-1))) else (none)) else (none))) else (some (-1))))) = some r := h
  clear h
  replace H := Option.bind_eq_some_iff.mp H
  obtain ⟨t195, A30, H⟩ := H
  replace H : ((spec_PairsValid.f k l0).bind fun t196 => (if t196 = true then (if t195 = (l0.length : Int) then (some (-1)) else (if 0 ≤ t195 then (if t195 < (l0.length : Int) then (if ((rd_T29 l0 t195).f0).toList = a1.toList then (some ((rd_T29 l0 t195).f1)) else (some (-1))) else (none)) else (none))) else (some (-1)))) = some r := H
  have A3 := Aside0.mk A30
  clear A30
  replace H := Option.bind_eq_some_iff.mp H
  obtain ⟨t196, A40, H⟩ := H
  replace H : (if t196 = true then (if t195 = (l0.length : Int) then (some (-1)) else (if 0 ≤ t195 then (if t195 < (l0.length : Int) then (if ((rd_T29 l0 t195).f0).toList = a1.toList then (some ((rd_T29 l0 t195).f1)) else (some (-1))) else (none)) else (none))) else (some (-1))) = some r := H
  have A4 := Aside0.mk A40
  clear A40
  by_cases c5 : t196 = true
  · subst c5
    have H1 : (if t195 = (l0.length : Int) then (some (-1)) else (if 0 ≤ t195 then (if t195 < (l0.length : Int) then (if ((rd_T29 l0 t195).f0).toList = a1.toList then (some ((rd_T29 l0 t195).f1)) else (some (-1))) else (none)) else (none))) = some r := by rw [if_pos rfl] at H; exact H
    clear H
    have H := H1
    clear H1
    by_cases c6 : t195 = (l0.length : Int)
    · rw [if_pos c6] at H
      have c6b0 : (t195 == (l0.length : Int)) = true := beq_iff_eq.mpr c6
      have c6b1 : (t195 != (l0.length : Int)) = false := bne_eq_false_iff_eq.mpr c6
      clear c6
      obtain rfl := Option.some.inj H
      go_enter Try.func91, Try.ntmps91
      go_wp2_with (first | ((with_reducible refine gate_callee (f := 136) rfl ?_); refine gsl (some 8) rfl Try.func136 #[.slice A0 l0.length c0, .string a1] rfl ?_; (with_reducible refine (spec_l4Place.calls k _ _ l0 a1 t195 _ ?side1 ?side2 A3.out).mono ?_); (case side1 => exact cc HR0.out); (case side2 => exact HC0.out); rintro e w' ⟨rfl, ⟨nd, rfl⟩⟩; refine ⟨_, rfl, ?_⟩) | ((with_reducible refine gate_callee (f := 72) rfl ?_); refine gsl (some 10) rfl Try.func72 #[.slice A0 l0.length c0] rfl ?_; (with_reducible refine (spec_PairsValid.calls k _ _ l0 true _ ?side1 ?side2 A4.out).mono ?_); (case side1 => exact cc HR0.out); (case side2 => exact HC0.out); rintro e w7 ⟨rfl, hb⟩; refine ⟨_, rfl, ?_⟩; replace HB := an0 HB hb; (try clear hb); (try clear hb2); (try clear hk); (try clear hi)))
      go_ret
      exact ⟨fe, bp HB.out⟩
    · rw [if_neg c6] at H
      have c6b0 : (t195 == (l0.length : Int)) = false := beq_eq_false_iff_ne.mpr c6
      have c6b1 : (t195 != (l0.length : Int)) = true := bne_iff_ne.mpr c6
      by_cases c8 : 0 ≤ t195
      · rw [if_pos c8] at H
        have c8b0 : decide (0 ≤ t195) = true := decide_eq_true c8
        clear c8
        by_cases c9 : t195 < (l0.length : Int)
        · rw [if_pos c9] at H
          have c9b0 : decide (t195 < (l0.length : Int)) = true := decide_eq_true c9
          clear c9
          by_cases c10 : ((rd_T29 l0 t195).f0).toList = a1.toList
          · rw [if_pos c10] at H
            have c10b0 : (((rd_T29 l0 t195).f0).toList == a1.toList) = true := beq_iff_eq.mpr c10
            have c10b1 : (((rd_T29 l0 t195).f0).toList != a1.toList) = false := bne_eq_false_iff_eq.mpr c10
            clear c10
            obtain rfl := Option.some.inj H
            go_enter Try.func91, Try.ntmps91
            go_wp2_with (first | ((with_reducible refine gate_callee (f := 136) rfl ?_); refine gsl (some 8) rfl Try.func136 #[.slice A0 l0.length c0, .string a1] rfl ?_; (with_reducible refine (spec_l4Place.calls k _ _ l0 a1 t195 _ ?side1 ?side2 A3.out).mono ?_); (case side1 => exact cc HR0.out); (case side2 => exact HC0.out); rintro e w' ⟨rfl, ⟨nd, rfl⟩⟩; refine ⟨_, rfl, ?_⟩) | ((with_reducible refine gate_callee (f := 72) rfl ?_); refine gsl (some 10) rfl Try.func72 #[.slice A0 l0.length c0] rfl ?_; (with_reducible refine (spec_PairsValid.calls k _ _ l0 true _ ?side1 ?side2 A4.out).mono ?_); (case side1 => exact cc HR0.out); (case side2 => exact HC0.out); rintro e w11 ⟨rfl, hb⟩; refine ⟨_, rfl, ?_⟩; replace HB := an0 HB hb; (try clear hb); (try clear hb2); (try clear hk); (try clear hi); have p197 : 0 ≤ (t195 : Int) := of_decide_eq_true (by first | (with_reducible assumption) | assumption); have q197 : t195 < (l0.length : Int) := of_decide_eq_true (by first | (with_reducible assumption) | assumption); obtain ⟨ad197, e197, hx197_0, hx197_1⟩ := at_T29 HR0.out t195 p197 q197; cases e197; replace hx197_0 := hcx HB hx197_0; replace hx197_1 := hcx HB hx197_1; replace p197 := eq_true p197; replace q197 := eq_true q197; have p198 : 0 ≤ (t195 : Int) := of_decide_eq_true (by first | (with_reducible assumption) | assumption); have q198 : t195 < (l0.length : Int) := of_decide_eq_true (by first | (with_reducible assumption) | assumption); obtain ⟨ad198, e198, hx198_0, hx198_1⟩ := at_T29 HR0.out t195 p198 q198; obtain rfl : ad197 = ad198 := (by injection e198); replace hx198_0 := hcx HB hx198_0; replace hx198_1 := hcx HB hx198_1; replace p198 := eq_true p198; replace q198 := eq_true q198))
            go_ret
            exact ⟨fe, bp HB.out⟩
          · rw [if_neg c10] at H
            have c10b0 : (((rd_T29 l0 t195).f0).toList == a1.toList) = false := beq_eq_false_iff_ne.mpr c10
            have c10b1 : (((rd_T29 l0 t195).f0).toList != a1.toList) = true := bne_iff_ne.mpr c10
            obtain rfl := Option.some.inj H
            go_enter Try.func91, Try.ntmps91
            go_wp2_with (first | ((with_reducible refine gate_callee (f := 136) rfl ?_); refine gsl (some 8) rfl Try.func136 #[.slice A0 l0.length c0, .string a1] rfl ?_; (with_reducible refine (spec_l4Place.calls k _ _ l0 a1 t195 _ ?side1 ?side2 A3.out).mono ?_); (case side1 => exact cc HR0.out); (case side2 => exact HC0.out); rintro e w' ⟨rfl, ⟨nd, rfl⟩⟩; refine ⟨_, rfl, ?_⟩) | ((with_reducible refine gate_callee (f := 72) rfl ?_); refine gsl (some 10) rfl Try.func72 #[.slice A0 l0.length c0] rfl ?_; (with_reducible refine (spec_PairsValid.calls k _ _ l0 true _ ?side1 ?side2 A4.out).mono ?_); (case side1 => exact cc HR0.out); (case side2 => exact HC0.out); rintro e w12 ⟨rfl, hb⟩; refine ⟨_, rfl, ?_⟩; replace HB := an0 HB hb; (try clear hb); (try clear hb2); (try clear hk); (try clear hi); have p197 : 0 ≤ (t195 : Int) := of_decide_eq_true (by first | (with_reducible assumption) | assumption); have q197 : t195 < (l0.length : Int) := of_decide_eq_true (by first | (with_reducible assumption) | assumption); obtain ⟨ad197, e197, hx197_0, hx197_1⟩ := at_T29 HR0.out t195 p197 q197; cases e197; replace hx197_0 := hcx HB hx197_0; replace hx197_1 := hcx HB hx197_1; replace p197 := eq_true p197; replace q197 := eq_true q197))
            go_ret
            exact ⟨fe, bp HB.out⟩
        · rw [if_neg c9] at H
          exact absurd H (by simp)
      · rw [if_neg c8] at H
        exact absurd H (by simp)
  · replace c5 := Bool.eq_false_iff.mpr c5
    subst c5
    have H1 : (some (-1)) = some r := by rw [if_neg (show ¬ (false = true) by decide)] at H; exact H
    clear H
    have H := H1
    clear H1
    obtain rfl := Option.some.inj H
    go_enter Try.func91, Try.ntmps91
    go_wp2_with (first | ((with_reducible refine gate_callee (f := 136) rfl ?_); refine gsl (some 8) rfl Try.func136 #[.slice A0 l0.length c0, .string a1] rfl ?_; (with_reducible refine (spec_l4Place.calls k _ _ l0 a1 t195 _ ?side1 ?side2 A3.out).mono ?_); (case side1 => exact cc HR0.out); (case side2 => exact HC0.out); rintro e w' ⟨rfl, ⟨nd, rfl⟩⟩; refine ⟨_, rfl, ?_⟩) | ((with_reducible refine gate_callee (f := 72) rfl ?_); refine gsl (some 10) rfl Try.func72 #[.slice A0 l0.length c0] rfl ?_; (with_reducible refine (spec_PairsValid.calls k _ _ l0 false _ ?side1 ?side2 A4.out).mono ?_); (case side1 => exact cc HR0.out); (case side2 => exact HC0.out); rintro e w13 ⟨rfl, hb⟩; refine ⟨_, rfl, ?_⟩; replace HB := an0 HB hb; (try clear hb); (try clear hb2); (try clear hk); (try clear hi)))
    go_ret
    exact ⟨fe, bp HB.out⟩

/-! ### spec_PairDrop: function 92 -/
def spec_PairDrop.f (k : Nat) (l0 : List (S29)) (a1 : ByteArray) : Option ((List (S29)) × Bool) := (some (([] : List (S29)) : List (S29))).bind fun y199 => ((spec_PairsValid.f k l0).bind fun t202 => (if t202 = true then ((spec_l4Place.f k l0 a1).bind fun t203 => (if t203 = (l0.length : Int) then (if y199.length + l0.length < 5864062014805 then (some ((y199 ++ l0), false)) else (none)) else (if 0 ≤ t203 then (if t203 < (l0.length : Int) then (if ((rd_T29 l0 t203).f0).toList = a1.toList then (if t203 ≤ (l0.length : Int) then ((some (l0.take (t203 : Int).toNat : List (S29))).bind fun y208 => (if y199.length + y208.length < 5864062014805 then ((some (y199 ++ y208 : List (S29))).bind fun y212 => (if 0 ≤ (wrap64 (t203 + 1)) then (if (wrap64 (t203 + 1)) ≤ (l0.length : Int) then ((some (l0.drop ((wrap64 (t203 + 1)) : Int).toNat : List (S29))).bind fun y215 => (if y212.length + y215.length < 5864062014805 then (some ((y212 ++ y215), true)) else (none))) else (none)) else (none))) else (none))) else (none)) else (if y199.length + l0.length < 5864062014805 then (some ((y199 ++ l0), false)) else (none))) else (none)) else (none)))) else (some (y199, false))))
theorem spec_PairDrop.mono : ∀ a0 a1 k, LeO (spec_PairDrop.f k a0 a1) (spec_PairDrop.f (k + 1) a0 a1) := by
  intro a0 a1 k
  unfold spec_PairDrop.f
  repeat' first
      | (with_reducible exact spec_PairsValid.mono _ _)
      | (with_reducible exact spec_l4Place.mono _ _ _)
      | (with_reducible exact LeO.refl _)
      | (with_reducible exact LeO.none _)
      | (with_reducible refine LeO.ite ?_ ?_)
      | (with_reducible refine LeO.bind ?_ (fun _ => ?_))
      | exact spec_PairsValid.mono _ _
      | exact spec_l4Place.mono _ _ _
      | exact LeO.none _
      | refine LeO.ite ?_ ?_
      | refine LeO.bind ?_ (fun _ => ?_)
theorem spec_PairDrop.s0 {P0 P1 Q : Prop} (B0 : P0) (B1 : P1) (h : P0 → P1 → Q := by (intro b0_ b1_; repeat (first | exact (Kd.C_below b0_ (bp b1_)) | (with_reducible refine Kd.C_alloc ?_ _) | (with_reducible refine Kd.C_drewN ?_ _) | (with_reducible refine Kd.C_drew ?_)))) : Q := h B0 B1
set_option maxHeartbeats 8000000 in
set_option maxRecDepth 100000 in
theorem spec_PairDrop.calls (k : Nat) (A0 : Option Addr) (c0 : Nat) (l0 : List (S29)) (a1 : ByteArray) (r1 : List (S29)) (r2 : Bool) (w : World) (hr0 : Kd.C k29 w A0 l0.length l0) (hc0 : l0.length ≤ c0) (h : spec_PairDrop.f k l0 a1 = some (r1, r2)) :
    Calls Try.prog 92 #[.slice A0 l0.length c0, .string a1] w fun e w' => ∃ v0_ : Value, e = .returned (.tuple #[v0_, .bool r2]) ∧ Kd.R k29 29 w' w.heap.size (fun _ => True) v0_ r1 ∧ Below w.heap.size w w' := by
  have HR0 := Aside0.mk hr0
  have HC0 := Aside0.mk hc0
  clear hr0 hc0
  have HB := Aside0.mk (Below.refl w.heap.size w)
  have H : ((some (([] : List (S29)) : List (S29))).bind fun y199 => ((spec_PairsValid.f k l0).bind fun t202 => (if t202 = true then ((spec_l4Place.f k l0 a1).bind fun t203 => (if t203 = (l0.length : Int) then (if y199.length + l0.length < 5864062014805 then (some ((y199 ++ l0), false)) else (none)) else (if 0 ≤ t203 then (if t203 < (l0.length : Int) then (if ((rd_T29 l0 t203).f0).toList = a1.toList then (if t203 ≤ (l0.length : Int) then ((some (l0.take (t203 : Int).toNat : List (S29))).bind fun y208 => (if y199.length + y208.length < 5864062014805 then ((some (y199 ++ y208 : List (S29))).bind fun y212 => (if 0 ≤ (wrap64 (t203 + 1)) then (if (wrap64 (t203 + 1)) ≤ (l0.length : Int) then ((some (l0.drop ((wrap64 (t203 + 1)) : Int).toNat : List (S29))).bind fun y215 => (if y212.length + y215.length < 5864062014805 then (some ((y212 ++ y215), true)) else (none))) else (none)) else (none))) else (none))) else (none)) else (if y199.length + l0.length < 5864062014805 then (some ((y199 ++ l0), false)) else (none))) else (none)) else (none)))) else (some (y199, false))))) = some (r1, r2) := h
  clear h
  obtain ⟨y199, hy199⟩ : ∃ y_ : List (S29), y_ = (([] : List (S29))) := ⟨_, rfl⟩
  replace H : ((spec_PairsValid.f k l0).bind fun t202 => (if t202 = true then ((spec_l4Place.f k l0 a1).bind fun t203 => (if t203 = (l0.length : Int) then (if y199.length + l0.length < 5864062014805 then (some ((y199 ++ l0), false)) else (none)) else (if 0 ≤ t203 then (if t203 < (l0.length : Int) then (if ((rd_T29 l0 t203).f0).toList = a1.toList then (if t203 ≤ (l0.length : Int) then ((some (l0.take (t203 : Int).toNat : List (S29))).bind fun y208 => (if y199.length + y208.length < 5864062014805 then ((some (y199 ++ y208 : List (S29))).bind fun y212 => (if 0 ≤ (wrap64 (t203 + 1)) then (if (wrap64 (t203 + 1)) ≤ (l0.length : Int) then ((some (l0.drop ((wrap64 (t203 + 1)) : Int).toNat : List (S29))).bind fun y215 => (if y212.length + y215.length < 5864062014805 then (some ((y212 ++ y215), true)) else (none))) else (none)) else (none))) else (none))) else (none)) else (if y199.length + l0.length < 5864062014805 then (some ((y199 ++ l0), false)) else (none))) else (none)) else (none)))) else (some (y199, false)))) = some (r1, r2) := by first | (rw [hy199]; with_reducible exact H) | (have H2_ := (Option.bind_some _ _).symm.trans H; rw [hy199]; with_reducible exact H2_) | (have H2_ := (Option.bind_some _ _).symm.trans H; with_reducible exact H2_) | with_reducible exact H | (rw [hy199]; exact H) | exact H
  have Ny199 := Aside0.mk hy199
  clear hy199
  replace H := Option.bind_eq_some_iff.mp H
  obtain ⟨t202, A30, H⟩ := H
  replace H : (if t202 = true then ((spec_l4Place.f k l0 a1).bind fun t203 => (if t203 = (l0.length : Int) then (if y199.length + l0.length < 5864062014805 then (some ((y199 ++ l0), false)) else (none)) else (if 0 ≤ t203 then (if t203 < (l0.length : Int) then (if ((rd_T29 l0 t203).f0).toList = a1.toList then (if t203 ≤ (l0.length : Int) then ((some (l0.take (t203 : Int).toNat : List (S29))).bind fun y208 => (if y199.length + y208.length < 5864062014805 then ((some (y199 ++ y208 : List (S29))).bind fun y212 => (if 0 ≤ (wrap64 (t203 + 1)) then (if (wrap64 (t203 + 1)) ≤ (l0.length : Int) then ((some (l0.drop ((wrap64 (t203 + 1)) : Int).toNat : List (S29))).bind fun y215 => (if y212.length + y215.length < 5864062014805 then (some ((y212 ++ y215), true)) else (none))) else (none)) else (none))) else (none))) else (none)) else (if y199.length + l0.length < 5864062014805 then (some ((y199 ++ l0), false)) else (none))) else (none)) else (none)))) else (some (y199, false))) = some (r1, r2) := H
  have A3 := Aside0.mk A30
  clear A30
  by_cases c4 : t202 = true
  · subst c4
    have H1 : ((spec_l4Place.f k l0 a1).bind fun t203 => (if t203 = (l0.length : Int) then (if y199.length + l0.length < 5864062014805 then (some ((y199 ++ l0), false)) else (none)) else (if 0 ≤ t203 then (if t203 < (l0.length : Int) then (if ((rd_T29 l0 t203).f0).toList = a1.toList then (if t203 ≤ (l0.length : Int) then ((some (l0.take (t203 : Int).toNat : List (S29))).bind fun y208 => (if y199.length + y208.length < 5864062014805 then ((some (y199 ++ y208 : List (S29))).bind fun y212 => (if 0 ≤ (wrap64 (t203 + 1)) then (if (wrap64 (t203 + 1)) ≤ (l0.length : Int) then ((some (l0.drop ((wrap64 (t203 + 1)) : Int).toNat : List (S29))).bind fun y215 => (if y212.length + y215.length < 5864062014805 then (some ((y212 ++ y215), true)) else (none))) else (none)) else (none))) else (none))) else (none)) else (if y199.length + l0.length < 5864062014805 then (some ((y199 ++ l0), false)) else (none))) else (none)) else (none)))) = some (r1, r2) := by rw [if_pos rfl] at H; exact H
    clear H
    have H := H1
    clear H1
    replace H := Option.bind_eq_some_iff.mp H
    obtain ⟨t203, A50, H⟩ := H
    replace H : (if t203 = (l0.length : Int) then (if y199.length + l0.length < 5864062014805 then (some ((y199 ++ l0), false)) else (none)) else (if 0 ≤ t203 then (if t203 < (l0.length : Int) then (if ((rd_T29 l0 t203).f0).toList = a1.toList then (if t203 ≤ (l0.length : Int) then ((some (l0.take (t203 : Int).toNat : List (S29))).bind fun y208 => (if y199.length + y208.length < 5864062014805 then ((some (y199 ++ y208 : List (S29))).bind fun y212 => (if 0 ≤ (wrap64 (t203 + 1)) then (if (wrap64 (t203 + 1)) ≤ (l0.length : Int) then ((some (l0.drop ((wrap64 (t203 + 1)) : Int).toNat : List (S29))).bind fun y215 => (if y212.length + y215.length < 5864062014805 then (some ((y212 ++ y215), true)) else (none))) else (none)) else (none))) else (none))) else (none)) else (if y199.length + l0.length < 5864062014805 then (some ((y199 ++ l0), false)) else (none))) else (none)) else (none))) = some (r1, r2) := H
    have A5 := Aside0.mk A50
    clear A50
    by_cases c6 : t203 = (l0.length : Int)
    · rw [if_pos c6] at H
      have c6b0 : (t203 == (l0.length : Int)) = true := beq_iff_eq.mpr c6
      have c6b1 : (t203 != (l0.length : Int)) = false := bne_eq_false_iff_eq.mpr c6
      clear c6
      by_cases c7 : y199.length + l0.length < 5864062014805
      · rw [if_pos c7] at H
        have LMc7 := Aside0.mk c7
        clear c7
        obtain ⟨y204, hy204⟩ : ∃ y_ : List (S29), y_ = (y199 ++ l0) := ⟨_, rfl⟩
        replace H : (some (y204, false)) = some (r1, r2) := by first | (rw [hy204]; with_reducible exact H) | (have H2_ := (Option.bind_some _ _).symm.trans H; rw [hy204]; with_reducible exact H2_) | (have H2_ := (Option.bind_some _ _).symm.trans H; with_reducible exact H2_) | with_reducible exact H | (rw [hy204]; exact H) | exact H
        have Ny204 := Aside0.mk hy204
        clear hy204
        simp only [Option.some.injEq, Prod.mk.injEq] at H
        obtain ⟨rfl, rfl⟩ := H
        go_enter Try.func92, Try.ntmps92
        go_wp2_with (first | ((with_reducible refine gate_dst (N := 8) rfl ?_); refine Kd.R_lit k29 _ 29 ?hg (N := 8) ?hd (xs := ([] : List (S29))) (inner := []) (ok := fun _ => True) (okp := fun _ => True) ?hr ?hp (fun _ hk => hk) trivial (Below.refl _ _) (Nat.le_refl _) (by simp) ?_; (case hd => rfl); (case hg => rfl); (case hr => first | (go_simp; done) | (go_simp; rfl)); (case hp => exact (Reps.none _ _)); intro v200 w8 ho9 hb hg_ hnew_; clear hg_ hnew_; (first | rw [← Ny199.out] at ho9 | (simp only [Int.reduceToNat] at ho9; rw [← Ny199.out] at ho9)); have n0_ := Aside0.mk (Kd.R_lower ho9 (below_size (bp HB.out))); have n1_ := an0 HB hb; clear HB; have HO201 := n0_; have HB := n1_; clear n0_ n1_; clear hb ho9) | ((with_reducible refine gate_callee (f := 72) rfl ?_); refine gsl (some 10) rfl Try.func72 #[.slice A0 l0.length c0] rfl ?_; (with_reducible refine (spec_PairsValid.calls k _ _ l0 true _ ?side1 ?side2 A3.out).mono ?_); (case side1 => exact cc (Kd.C_below HR0.out HB.out)); (case side2 => exact HC0.out); rintro e w10 ⟨rfl, hb⟩; refine ⟨_, rfl, ?_⟩; have n0_ := Aside0.mk (Kd.R_below (kr HO201.out) hb); have n1_ := an0 HB hb; clear HO201; clear HB; have HO201 := n0_; have HB := n1_; clear n0_ n1_; (try clear hb); (try clear hb2); (try clear hk); (try clear hi)) | ((with_reducible refine gate_callee (f := 136) rfl ?_); refine gsl (some 15) rfl Try.func136 #[.slice A0 l0.length c0, .string a1] rfl ?_; (with_reducible refine (spec_l4Place.calls k _ _ l0 a1 t203 _ ?side1 ?side2 A5.out).mono ?_); (case side1 => exact cc (Kd.C_below HR0.out HB.out)); (case side2 => exact HC0.out); rintro e w' ⟨rfl, ⟨nd, rfl⟩⟩; refine ⟨_, rfl, ?_⟩) | ((with_reducible refine gate_builtin (b := .append) (xs := #[.tmp 29, .tmp 30]) rfl ?_); at_builtin; refine Kd.R_append_rows k29 (w0 := w) w.heap.size rfl (.tmp 29) (.tmp 30) 23 29 (.agg #[(.string ⟨#[]⟩), (.int .i64 0)]) 24 rfl Try.underlying23 info29 rfl (by decide) (by omega) v200 y199 l0 _ _ _ (fun _ => True) (fun _ => False) rfl rfl ?aO ?aR (fun _ _ h => h) (fun _ h => h.elim) ?aF ?aB ?aS ?aL ?_; (case aR => exact spec_PairDrop.s0 HR0.out HB.out); (case aB => exact (bp HB.out)); (case aF => exact (fun _ _ => trivial)); (case aO => exact (kr HO201.out)); (case aS => exact (below_size (bp HB.out))); (case aL => have := LMc7.out; omega); intro v205 w11 ho hb hg hat; rw [← Ny204.out] at ho; have n0_ := Aside0.mk (hb); have n1_ := Aside0.mk (ho); clear HB; clear HO201; have HB := n0_; have HO206 := n1_; clear n0_ n1_; clear ho hb hg hat))
        go_ret2
        exact ⟨_, fe, by (with_reducible repeat (first | apply Kd.R_alloc | apply Kd.R_drewN | apply Kd.R_drew)); exact HO206.out, bp HB.out⟩
      · rw [if_neg c7] at H
        exact absurd H (by simp)
    · rw [if_neg c6] at H
      have c6b0 : (t203 == (l0.length : Int)) = false := beq_eq_false_iff_ne.mpr c6
      have c6b1 : (t203 != (l0.length : Int)) = true := bne_iff_ne.mpr c6
      by_cases c12 : 0 ≤ t203
      · rw [if_pos c12] at H
        have c12b0 : decide (0 ≤ t203) = true := decide_eq_true c12
        clear c12
        by_cases c13 : t203 < (l0.length : Int)
        · rw [if_pos c13] at H
          have c13b0 : decide (t203 < (l0.length : Int)) = true := decide_eq_true c13
          clear c13
          by_cases c14 : ((rd_T29 l0 t203).f0).toList = a1.toList
          · rw [if_pos c14] at H
            have c14b0 : (((rd_T29 l0 t203).f0).toList == a1.toList) = true := beq_iff_eq.mpr c14
            have c14b1 : (((rd_T29 l0 t203).f0).toList != a1.toList) = false := bne_eq_false_iff_eq.mpr c14
            clear c14
            have c15b0 := eq_true (of_decide_eq_true (by first | (with_reducible assumption) | assumption) : 0 ≤ t203)
            by_cases c16 : t203 ≤ (l0.length : Int)
            · rw [if_pos c16] at H
              have c16b0 := eq_true c16
              have c16b1 : decide (t203 ≤ (l0.length : Int)) = true := decide_eq_true c16
              clear c16
              obtain ⟨y208, hy208⟩ : ∃ y_ : List (S29), y_ = (l0.take (t203 : Int).toNat) := ⟨_, rfl⟩
              replace H : (if y199.length + y208.length < 5864062014805 then ((some (y199 ++ y208 : List (S29))).bind fun y212 => (if 0 ≤ (wrap64 (t203 + 1)) then (if (wrap64 (t203 + 1)) ≤ (l0.length : Int) then ((some (l0.drop ((wrap64 (t203 + 1)) : Int).toNat : List (S29))).bind fun y215 => (if y212.length + y215.length < 5864062014805 then (some ((y212 ++ y215), true)) else (none))) else (none)) else (none))) else (none)) = some (r1, r2) := by first | (rw [hy208]; with_reducible exact H) | (have H2_ := (Option.bind_some _ _).symm.trans H; rw [hy208]; with_reducible exact H2_) | (have H2_ := (Option.bind_some _ _).symm.trans H; with_reducible exact H2_) | with_reducible exact H | (rw [hy208]; exact H) | exact H
              have Ny208 := Aside0.mk hy208
              clear hy208
              by_cases c17 : y199.length + y208.length < 5864062014805
              · rw [if_pos c17] at H
                have LMc17 := Aside0.mk c17
                clear c17
                obtain ⟨y212, hy212⟩ : ∃ y_ : List (S29), y_ = (y199 ++ y208) := ⟨_, rfl⟩
                replace H : (if 0 ≤ (wrap64 (t203 + 1)) then (if (wrap64 (t203 + 1)) ≤ (l0.length : Int) then ((some (l0.drop ((wrap64 (t203 + 1)) : Int).toNat : List (S29))).bind fun y215 => (if y212.length + y215.length < 5864062014805 then (some ((y212 ++ y215), true)) else (none))) else (none)) else (none)) = some (r1, r2) := by first | (rw [hy212]; with_reducible exact H) | (have H2_ := (Option.bind_some _ _).symm.trans H; rw [hy212]; with_reducible exact H2_) | (have H2_ := (Option.bind_some _ _).symm.trans H; with_reducible exact H2_) | with_reducible exact H | (rw [hy212]; exact H) | exact H
                have Ny212 := Aside0.mk hy212
                clear hy212
                obtain ⟨ji18, hji18⟩ : ∃ j_ : Int, (wrap64 (t203 + 1)) = j_ := ⟨_, rfl⟩
                replace H : (if 0 ≤ (ji18) then (if (ji18) ≤ (l0.length : Int) then ((some (l0.drop ((ji18) : Int).toNat : List (S29))).bind fun y215 => (if y212.length + y215.length < 5864062014805 then (some ((y212 ++ y215), true)) else (none))) else (none)) else (none)) = some (r1, r2) := by first | (rw [hji18] at H; exact H) | (simp only [hji18] at H ⊢; exact H)
                (try rw [hji18] at A3)
                (try rw [hji18] at A5)
                have hji18w : (IntKind.i64.wrap (t203 + 1)) = ji18 := (i64_w _).trans hji18
                by_cases c19 : 0 ≤ (ji18)
                · rw [if_pos c19] at H
                  have c19b0 := eq_true c19
                  have c19b1 : decide (0 ≤ (ji18)) = true := decide_eq_true c19
                  clear c19
                  by_cases c20 : (ji18) ≤ (l0.length : Int)
                  · rw [if_pos c20] at H
                    have c20b0 := eq_true c20
                    have c20b1 : decide ((ji18) ≤ (l0.length : Int)) = true := decide_eq_true c20
                    clear c20
                    obtain ⟨y215, hy215⟩ : ∃ y_ : List (S29), y_ = (l0.drop ((ji18) : Int).toNat) := ⟨_, rfl⟩
                    replace H : (if y212.length + y215.length < 5864062014805 then (some ((y212 ++ y215), true)) else (none)) = some (r1, r2) := by first | (rw [hy215]; with_reducible exact H) | (have H2_ := (Option.bind_some _ _).symm.trans H; rw [hy215]; with_reducible exact H2_) | (have H2_ := (Option.bind_some _ _).symm.trans H; with_reducible exact H2_) | with_reducible exact H | (rw [hy215]; exact H) | exact H
                    have Ny215 := Aside0.mk hy215
                    clear hy215
                    by_cases c21 : y212.length + y215.length < 5864062014805
                    · rw [if_pos c21] at H
                      have LMc21 := Aside0.mk c21
                      clear c21
                      obtain ⟨y219, hy219⟩ : ∃ y_ : List (S29), y_ = (y212 ++ y215) := ⟨_, rfl⟩
                      replace H : (some (y219, true)) = some (r1, r2) := by first | (rw [hy219]; with_reducible exact H) | (have H2_ := (Option.bind_some _ _).symm.trans H; rw [hy219]; with_reducible exact H2_) | (have H2_ := (Option.bind_some _ _).symm.trans H; with_reducible exact H2_) | with_reducible exact H | (rw [hy219]; exact H) | exact H
                      have Ny219 := Aside0.mk hy219
                      clear hy219
                      simp only [Option.some.injEq, Prod.mk.injEq] at H
                      obtain ⟨rfl, rfl⟩ := H
                      go_enter Try.func92, Try.ntmps92
                      go_wp2_with (first | ((with_reducible refine gate_dst (N := 8) rfl ?_); refine Kd.R_lit k29 _ 29 ?hg (N := 8) ?hd (xs := ([] : List (S29))) (inner := []) (ok := fun _ => True) (okp := fun _ => True) ?hr ?hp (fun _ hk => hk) trivial (Below.refl _ _) (Nat.le_refl _) (by simp) ?_; (case hd => rfl); (case hg => rfl); (case hr => first | (go_simp; done) | (go_simp; rfl)); (case hp => exact (Reps.none _ _)); intro v200 w22 ho23 hb hg_ hnew_; clear hg_ hnew_; (first | rw [← Ny199.out] at ho23 | (simp only [Int.reduceToNat] at ho23; rw [← Ny199.out] at ho23)); have n0_ := Aside0.mk (Kd.R_lower ho23 (below_size (bp HB.out))); have n1_ := an0 HB hb; clear HB; have HO201 := n0_; have HB := n1_; clear n0_ n1_; clear hb ho23) | ((with_reducible refine gate_callee (f := 72) rfl ?_); refine gsl (some 10) rfl Try.func72 #[.slice A0 l0.length c0] rfl ?_; (with_reducible refine (spec_PairsValid.calls k _ _ l0 true _ ?side1 ?side2 A3.out).mono ?_); (case side1 => exact cc (Kd.C_below HR0.out HB.out)); (case side2 => exact HC0.out); rintro e w24 ⟨rfl, hb⟩; refine ⟨_, rfl, ?_⟩; have n0_ := Aside0.mk (Kd.R_below (kr HO201.out) hb); have n1_ := an0 HB hb; clear HO201; clear HB; have HO201 := n0_; have HB := n1_; clear n0_ n1_; (try clear hb); (try clear hb2); (try clear hk); (try clear hi)) | ((with_reducible refine gate_callee (f := 136) rfl ?_); refine gsl (some 15) rfl Try.func136 #[.slice A0 l0.length c0, .string a1] rfl ?_; (with_reducible refine (spec_l4Place.calls k _ _ l0 a1 t203 _ ?side1 ?side2 A5.out).mono ?_); (case side1 => exact cc (Kd.C_below HR0.out HB.out)); (case side2 => exact HC0.out); rintro e w' ⟨rfl, ⟨nd, rfl⟩⟩; refine ⟨_, rfl, ?_⟩; have p207 : 0 ≤ (t203 : Int) := of_decide_eq_true (by first | (with_reducible assumption) | assumption); have q207 : t203 < (l0.length : Int) := of_decide_eq_true (by first | (with_reducible assumption) | assumption); obtain ⟨ad207, e207, hx207_0, hx207_1⟩ := at_T29 HR0.out t203 p207 q207; cases e207; replace hx207_0 := hcx HB hx207_0; replace hx207_1 := hcx HB hx207_1; replace p207 := eq_true p207; replace q207 := eq_true q207; have q25 : (t203 : Int) ≤ ((l0.length : Int) : Int) := of_decide_eq_true (by first | (with_reducible assumption) | assumption); obtain ⟨i025, hi025, _, hsz25, _⟩ := info_parts info29; have hroom25 : l0.length ≤ c0 := HC0.out; have hC25 : Kd.C k29 _ (some ad207) l0.length l0 := HR0.out; have hcut25 := cut_to (P := Try.prog) 23 29 .i64 Try.underlying23 hi025 (some ad207) l0.length c0 t203 (of_decide_eq_true (by first | (with_reducible assumption) | assumption)) q25 hroom25; have hr25 := Kd.C_take (m := (t203 : Int).toNat) hC25 (by omega); have hy25 : y208.length = (t203 : Int).toNat := (by rw [Ny208.out, List.length_take]; omega); rw [← Ny208.out] at hr25; rw [← hy25] at hcut25; have HR211 := Aside0.mk hr25; have HC211 := Aside0.mk (show y208.length ≤ c0 from by omega); clear hr25 hC25 hroom25 hi025 hsz25; have KY25 := Aside0.mk hy25; clear hy25; replace q25 := eq_true q25) | ((with_reducible refine gate_builtin (b := .append) (xs := #[.tmp 32, .tmp 35]) rfl ?_); at_builtin; refine Kd.R_append_rows k29 (w0 := w) w.heap.size rfl (.tmp 32) (.tmp 35) 23 29 (.agg #[(.string ⟨#[]⟩), (.int .i64 0)]) 24 rfl Try.underlying23 info29 rfl (by decide) (by omega) v200 y199 y208 _ _ _ (fun _ => True) (fun _ => False) rfl rfl ?aO ?aR (fun _ _ h => h) (fun _ h => h.elim) ?aF ?aB ?aS ?aL ?_; (case aR => exact spec_PairDrop.s0 HR211.out HB.out); (case aB => exact (bp HB.out)); (case aF => exact (fun _ _ => trivial)); (case aO => exact (kr HO201.out)); (case aS => exact (below_size (bp HB.out))); (case aL => have := LMc17.out; omega); intro v213 w26 ho hb hg hat; rw [← Ny212.out] at ho; have n0_ := Aside0.mk (hb); have n1_ := Aside0.mk (ho); clear HB; clear HO201; have HB := n0_; have HO214 := n1_; clear n0_ n1_; clear ho hb hg hat; have q27 : ((ji18) : Int) ≤ ((l0.length : Int) : Int) := of_decide_eq_true (by first | (with_reducible assumption) | assumption); obtain ⟨i027, hi027, _, hsz27, _⟩ := info_parts info29; have hroom27 : l0.length ≤ c0 := HC0.out; have hC27 : Kd.C k29 _ (some ad207) l0.length l0 := HR0.out; have q027 : (0 : Int) ≤ ((ji18) : Int) := of_decide_eq_true (by first | (with_reducible assumption) | assumption); have hcut27 := cut_from (P := Try.prog) 23 29 .i64 Try.underlying23 hi027 2 hsz27 (some ad207) l0.length c0 (ji18) q027 q27; have hr27 := Kd.C_drop (m := ((ji18) : Int).toNat) (c := c0) hC27 (by omega) hroom27; obtain ⟨A27, hA27⟩ : ∃ A_, A_ = (if c0 = ((ji18) : Int).toNat then (some ad207) else ((some ad207) : Option Addr).map (·.add (((ji18) : Int).toNat * 2))) := ⟨_, rfl⟩; obtain ⟨c27, hc27⟩ : ∃ c_, c_ = c0 - ((ji18) : Int).toNat := ⟨_, rfl⟩; have hy27 : y215.length = l0.length - ((ji18) : Int).toNat := (by rw [Ny215.out, List.length_drop] <;> omega); rw [show (l0).drop ((ji18) : Int).toNat = y215 from Ny215.out.symm] at hr27; replace hr27 : Kd.C k29 _ A27 y215.length y215 := (by rw [hA27]; exact hr27); rw [← hy27, ← hA27, ← hc27] at hcut27; have HR218 := Aside0.mk hr27; have HC218 := Aside0.mk (show y215.length ≤ c27 from by rw [hy27, hc27]; exact Nat.sub_le_sub_right hroom27 _); clear hr27 hC27 hroom27 hi027 hsz27 hc27; have KY27 := Aside0.mk hy27; have KA27 := Aside0.mk hA27; clear hy27 hA27; replace q27 := eq_true q27) | ((with_reducible refine gate_builtin (b := .append) (xs := #[.tmp 37, .tmp 41]) rfl ?_); at_builtin; refine Kd.R_append_rows k29 (w0 := w) w.heap.size rfl (.tmp 37) (.tmp 41) 23 29 (.agg #[(.string ⟨#[]⟩), (.int .i64 0)]) 24 rfl Try.underlying23 info29 rfl (by decide) (by omega) v213 y212 y215 _ _ _ (fun _ => True) (fun _ => False) rfl rfl ?aO ?aR (fun _ _ h => h) (fun _ h => h.elim) ?aF ?aB ?aS ?aL ?_; (case aR => exact cc (Kd.C_below HR218.out HB.out)); (case aB => exact (bp HB.out)); (case aF => exact (fun _ _ => trivial)); (case aO => exact (kr HO214.out)); (case aS => exact (below_size (bp HB.out))); (case aL => have := LMc21.out; omega); intro v220 w28 ho hb hg hat; rw [← Ny219.out] at ho; have n0_ := Aside0.mk (hb); have n1_ := Aside0.mk (ho); clear HB; clear HO214; have HB := n0_; have HO221 := n1_; clear n0_ n1_; clear ho hb hg hat))
                      go_ret2
                      exact ⟨_, by first | rfl | (simp [errW_none, errW_some] <;> rfl) | (simp only [← hji18]; first | rfl | (simp [errW_none, errW_some] <;> rfl)) | (simp [*, errW_none, errW_some] <;> rfl) | (simp only [IntKind.wrap_u8, show ∀ n_ : Int, wrap64 (n_ % 256) = n_ % 256 from fun n_ => by unfold wrap64; omega]; rfl), by (with_reducible repeat (first | apply Kd.R_alloc | apply Kd.R_drewN | apply Kd.R_drew)); exact HO221.out, bp HB.out⟩
                    · rw [if_neg c21] at H
                      exact absurd H (by simp)
                  · rw [if_neg c20] at H
                    exact absurd H (by simp)
                · rw [if_neg c19] at H
                  exact absurd H (by simp)
              · rw [if_neg c17] at H
                exact absurd H (by simp)
            · rw [if_neg c16] at H
              exact absurd H (by simp)
          · rw [if_neg c14] at H
            have c14b0 : (((rd_T29 l0 t203).f0).toList == a1.toList) = false := beq_eq_false_iff_ne.mpr c14
            have c14b1 : (((rd_T29 l0 t203).f0).toList != a1.toList) = true := bne_iff_ne.mpr c14
            by_cases c29 : y199.length + l0.length < 5864062014805
            · rw [if_pos c29] at H
              have LMc29 := Aside0.mk c29
              clear c29
              obtain ⟨y222, hy222⟩ : ∃ y_ : List (S29), y_ = (y199 ++ l0) := ⟨_, rfl⟩
              replace H : (some (y222, false)) = some (r1, r2) := by first | (rw [hy222]; with_reducible exact H) | (have H2_ := (Option.bind_some _ _).symm.trans H; rw [hy222]; with_reducible exact H2_) | (have H2_ := (Option.bind_some _ _).symm.trans H; with_reducible exact H2_) | with_reducible exact H | (rw [hy222]; exact H) | exact H
              have Ny222 := Aside0.mk hy222
              clear hy222
              simp only [Option.some.injEq, Prod.mk.injEq] at H
              obtain ⟨rfl, rfl⟩ := H
              go_enter Try.func92, Try.ntmps92
              go_wp2_with (first | ((with_reducible refine gate_dst (N := 8) rfl ?_); refine Kd.R_lit k29 _ 29 ?hg (N := 8) ?hd (xs := ([] : List (S29))) (inner := []) (ok := fun _ => True) (okp := fun _ => True) ?hr ?hp (fun _ hk => hk) trivial (Below.refl _ _) (Nat.le_refl _) (by simp) ?_; (case hd => rfl); (case hg => rfl); (case hr => first | (go_simp; done) | (go_simp; rfl)); (case hp => exact (Reps.none _ _)); intro v200 w30 ho31 hb hg_ hnew_; clear hg_ hnew_; (first | rw [← Ny199.out] at ho31 | (simp only [Int.reduceToNat] at ho31; rw [← Ny199.out] at ho31)); have n0_ := Aside0.mk (Kd.R_lower ho31 (below_size (bp HB.out))); have n1_ := an0 HB hb; clear HB; have HO201 := n0_; have HB := n1_; clear n0_ n1_; clear hb ho31) | ((with_reducible refine gate_callee (f := 72) rfl ?_); refine gsl (some 10) rfl Try.func72 #[.slice A0 l0.length c0] rfl ?_; (with_reducible refine (spec_PairsValid.calls k _ _ l0 true _ ?side1 ?side2 A3.out).mono ?_); (case side1 => exact cc (Kd.C_below HR0.out HB.out)); (case side2 => exact HC0.out); rintro e w32 ⟨rfl, hb⟩; refine ⟨_, rfl, ?_⟩; have n0_ := Aside0.mk (Kd.R_below (kr HO201.out) hb); have n1_ := an0 HB hb; clear HO201; clear HB; have HO201 := n0_; have HB := n1_; clear n0_ n1_; (try clear hb); (try clear hb2); (try clear hk); (try clear hi)) | ((with_reducible refine gate_callee (f := 136) rfl ?_); refine gsl (some 15) rfl Try.func136 #[.slice A0 l0.length c0, .string a1] rfl ?_; (with_reducible refine (spec_l4Place.calls k _ _ l0 a1 t203 _ ?side1 ?side2 A5.out).mono ?_); (case side1 => exact cc (Kd.C_below HR0.out HB.out)); (case side2 => exact HC0.out); rintro e w' ⟨rfl, ⟨nd, rfl⟩⟩; refine ⟨_, rfl, ?_⟩; have p207 : 0 ≤ (t203 : Int) := of_decide_eq_true (by first | (with_reducible assumption) | assumption); have q207 : t203 < (l0.length : Int) := of_decide_eq_true (by first | (with_reducible assumption) | assumption); obtain ⟨ad207, e207, hx207_0, hx207_1⟩ := at_T29 HR0.out t203 p207 q207; cases e207; replace hx207_0 := hcx HB hx207_0; replace hx207_1 := hcx HB hx207_1; replace p207 := eq_true p207; replace q207 := eq_true q207) | ((with_reducible refine gate_builtin (b := .append) (xs := #[.tmp 29, .tmp 30]) rfl ?_); at_builtin; refine Kd.R_append_rows k29 (w0 := w) w.heap.size rfl (.tmp 29) (.tmp 30) 23 29 (.agg #[(.string ⟨#[]⟩), (.int .i64 0)]) 24 rfl Try.underlying23 info29 rfl (by decide) (by omega) v200 y199 l0 _ _ _ (fun _ => True) (fun _ => False) rfl rfl ?aO ?aR (fun _ _ h => h) (fun _ h => h.elim) ?aF ?aB ?aS ?aL ?_; (case aR => exact spec_PairDrop.s0 HR0.out HB.out); (case aB => exact (bp HB.out)); (case aF => exact (fun _ _ => trivial)); (case aO => exact (kr HO201.out)); (case aS => exact (below_size (bp HB.out))); (case aL => have := LMc29.out; omega); intro v223 w33 ho hb hg hat; rw [← Ny222.out] at ho; have n0_ := Aside0.mk (hb); have n1_ := Aside0.mk (ho); clear HB; clear HO201; have HB := n0_; have HO224 := n1_; clear n0_ n1_; clear ho hb hg hat))
              go_ret2
              exact ⟨_, fe, by (with_reducible repeat (first | apply Kd.R_alloc | apply Kd.R_drewN | apply Kd.R_drew)); exact HO224.out, bp HB.out⟩
            · rw [if_neg c29] at H
              exact absurd H (by simp)
        · rw [if_neg c13] at H
          exact absurd H (by simp)
      · rw [if_neg c12] at H
        exact absurd H (by simp)
  · replace c4 := Bool.eq_false_iff.mpr c4
    subst c4
    have H1 : (some (y199, false)) = some (r1, r2) := by rw [if_neg (show ¬ (false = true) by decide)] at H; exact H
    clear H
    have H := H1
    clear H1
    simp only [Option.some.injEq, Prod.mk.injEq] at H
    obtain ⟨rfl, rfl⟩ := H
    go_enter Try.func92, Try.ntmps92
    go_wp2_with (first | ((with_reducible refine gate_dst (N := 8) rfl ?_); refine Kd.R_lit k29 _ 29 ?hg (N := 8) ?hd (xs := ([] : List (S29))) (inner := []) (ok := fun _ => True) (okp := fun _ => True) ?hr ?hp (fun _ hk => hk) trivial (Below.refl _ _) (Nat.le_refl _) (by simp) ?_; (case hd => rfl); (case hg => rfl); (case hr => first | (go_simp; done) | (go_simp; rfl)); (case hp => exact (Reps.none _ _)); intro v200 w34 ho35 hb hg_ hnew_; clear hg_ hnew_; (first | rw [← Ny199.out] at ho35 | (simp only [Int.reduceToNat] at ho35; rw [← Ny199.out] at ho35)); have n0_ := Aside0.mk (Kd.R_lower ho35 (below_size (bp HB.out))); have n1_ := an0 HB hb; clear HB; have HO201 := n0_; have HB := n1_; clear n0_ n1_; clear hb ho35) | ((with_reducible refine gate_callee (f := 72) rfl ?_); refine gsl (some 10) rfl Try.func72 #[.slice A0 l0.length c0] rfl ?_; (with_reducible refine (spec_PairsValid.calls k _ _ l0 false _ ?side1 ?side2 A3.out).mono ?_); (case side1 => exact cc (Kd.C_below HR0.out HB.out)); (case side2 => exact HC0.out); rintro e w36 ⟨rfl, hb⟩; refine ⟨_, rfl, ?_⟩; have n0_ := Aside0.mk (Kd.R_below (kr HO201.out) hb); have n1_ := an0 HB hb; clear HO201; clear HB; have HO201 := n0_; have HB := n1_; clear n0_ n1_; (try clear hb); (try clear hb2); (try clear hk); (try clear hi)))
    go_ret2
    exact ⟨_, fe, by (with_reducible repeat (first | apply Kd.R_alloc | apply Kd.R_drewN | apply Kd.R_drew)); exact HO201.out, bp HB.out⟩

/-! ### spec_PairPut: function 93 -/
mutual
def spec_PairPut.j0 : Nat → List (S29) → ByteArray → Int → List (S29) → Bool → Option ((List (S29)) × Bool)
  | 0, _, _, _, _, _ => none
  | k + 1, x0, x1, x2, x8, x23 => if x23 = true then (some (x8, false)) else ((spec_l4Place.f k x0 x1).bind fun t231 => (if t231 < (x0.length : Int) then (if 0 ≤ t231 then (spec_PairPut.j1 k x0 x1 x2 x8 t231 (((rd_T29 x0 t231).f0).toList == x1.toList)) else (none)) else (spec_PairPut.j1 k x0 x1 x2 x8 t231 false)))
def spec_PairPut.j1 : Nat → List (S29) → ByteArray → Int → List (S29) → Int → Bool → Option ((List (S29)) × Bool)
  | 0, _, _, _, _, _, _ => none
  | k + 1, x0, x1, x2, x8, x9, x40 => if x40 = true then (if x8.length + x0.length < 5864062014805 then ((some (x8 ++ x0 : List (S29))).bind fun y233 => (if 0 ≤ x9 then (if x9 < (y233.length : Int) then (some ((y233.set (x9 : Int).toNat (⟨(rd_T29 y233 x9).f0, x2⟩ : S29)), true)) else (none)) else (none))) else (none)) else (if (x0.length : Int) ≥ 48 then (if x8.length + x0.length < 5864062014805 then (some ((x8 ++ x0), false)) else (none)) else (if 0 ≤ x9 then (if x9 ≤ (x0.length : Int) then ((some (x0.take (x9 : Int).toNat : List (S29))).bind fun y240 => (if x8.length + y240.length < 5864062014805 then ((some (x8 ++ y240 : List (S29))).bind fun y244 => (if y244.length < 5864062014805 then ((some (y244 ++ [(⟨x1, x2⟩ : S29)] : List (S29))).bind fun y247 => ((some (x0.drop (x9 : Int).toNat : List (S29))).bind fun y250 => (if y247.length + y250.length < 5864062014805 then (some ((y247 ++ y250), true)) else (none)))) else (none))) else (none))) else (none)) else (none)))
end
def spec_PairPut.f (k : Nat) (l0 : List (S29)) (a1 : ByteArray) (a2 : Int) : Option ((List (S29)) × Bool) := (some (([] : List (S29)) : List (S29))).bind fun y225 => ((spec_PairsValid.f k l0).bind fun t228 => (if t228 = true then ((spec_KeyValid.f k a1).bind fun t229 => (if t229 = true then ((spec_l1In.f a2 0 999).bind fun t230 => (spec_PairPut.j0 k l0 a1 a2 y225 (!t230))) else (spec_PairPut.j0 k l0 a1 a2 y225 true))) else (spec_PairPut.j0 k l0 a1 a2 y225 true)))
theorem spec_PairPut.mono_l : ∀ k, (∀ y0 y1 y2 y3 y4, LeO (spec_PairPut.j0 k y0 y1 y2 y3 y4) (spec_PairPut.j0 (k + 1) y0 y1 y2 y3 y4)) ∧ (∀ y0 y1 y2 y3 y4 y5, LeO (spec_PairPut.j1 k y0 y1 y2 y3 y4 y5) (spec_PairPut.j1 (k + 1) y0 y1 y2 y3 y4 y5))
  | 0 => ⟨fun _ _ _ _ _ r h => by simp [spec_PairPut.j0] at h, fun _ _ _ _ _ _ r h => by simp [spec_PairPut.j1] at h⟩
  | k + 1 => by
    obtain ⟨ih0, ih1⟩ := spec_PairPut.mono_l k
    refine ⟨?_, ?_⟩
    · intro y0 y1 y2 y3 y4
      unfold spec_PairPut.j0
      repeat' first
      | (with_reducible exact ih0 _ _ _ _ _)
      | (with_reducible exact ih1 _ _ _ _ _ _)
      | (with_reducible exact spec_KeyValid.mono _ _)
      | (with_reducible exact spec_PairsValid.mono _ _)
      | (with_reducible exact spec_l4Place.mono _ _ _)
      | (with_reducible exact LeO.refl _)
      | (with_reducible exact LeO.none _)
      | (with_reducible refine LeO.ite ?_ ?_)
      | (with_reducible refine LeO.bind ?_ (fun _ => ?_))
      | exact ih0 _ _ _ _ _
      | exact ih1 _ _ _ _ _ _
      | exact spec_KeyValid.mono _ _
      | exact spec_PairsValid.mono _ _
      | exact spec_l4Place.mono _ _ _
      | exact LeO.none _
      | refine LeO.ite ?_ ?_
      | refine LeO.bind ?_ (fun _ => ?_)
    · intro y0 y1 y2 y3 y4 y5
      unfold spec_PairPut.j1
      repeat' first
      | (with_reducible exact ih0 _ _ _ _ _)
      | (with_reducible exact ih1 _ _ _ _ _ _)
      | (with_reducible exact spec_KeyValid.mono _ _)
      | (with_reducible exact spec_PairsValid.mono _ _)
      | (with_reducible exact spec_l4Place.mono _ _ _)
      | (with_reducible exact LeO.refl _)
      | (with_reducible exact LeO.none _)
      | (with_reducible refine LeO.ite ?_ ?_)
      | (with_reducible refine LeO.bind ?_ (fun _ => ?_))
      | exact ih0 _ _ _ _ _
      | exact ih1 _ _ _ _ _ _
      | exact spec_KeyValid.mono _ _
      | exact spec_PairsValid.mono _ _
      | exact spec_l4Place.mono _ _ _
      | exact LeO.none _
      | refine LeO.ite ?_ ?_
      | refine LeO.bind ?_ (fun _ => ?_)
theorem spec_PairPut.mono : ∀ a0 a1 a2 k, LeO (spec_PairPut.f k a0 a1 a2) (spec_PairPut.f (k + 1) a0 a1 a2) := by
  intro a0 a1 a2 k
  obtain ⟨ih0, ih1⟩ := spec_PairPut.mono_l k
  unfold spec_PairPut.f
  repeat' first
      | (with_reducible exact ih0 _ _ _ _ _)
      | (with_reducible exact ih1 _ _ _ _ _ _)
      | (with_reducible exact spec_KeyValid.mono _ _)
      | (with_reducible exact spec_PairsValid.mono _ _)
      | (with_reducible exact spec_l4Place.mono _ _ _)
      | (with_reducible exact LeO.refl _)
      | (with_reducible exact LeO.none _)
      | (with_reducible refine LeO.ite ?_ ?_)
      | (with_reducible refine LeO.bind ?_ (fun _ => ?_))
      | exact ih0 _ _ _ _ _
      | exact ih1 _ _ _ _ _ _
      | exact spec_KeyValid.mono _ _
      | exact spec_PairsValid.mono _ _
      | exact spec_l4Place.mono _ _ _
      | exact LeO.none _
      | refine LeO.ite ?_ ?_
      | refine LeO.bind ?_ (fun _ => ?_)
set_option maxHeartbeats 8000000 in
set_option maxRecDepth 100000 in
theorem spec_PairPut.calls (k : Nat) (A0 : Option Addr) (c0 : Nat) (l0 : List (S29)) (a1 : ByteArray) (a2 : Int) (r1 : List (S29)) (r2 : Bool) (w : World) (hr0 : Kd.C k29 w A0 l0.length l0) (hc0 : l0.length ≤ c0) (h : spec_PairPut.f k l0 a1 a2 = some (r1, r2)) :
    Calls Try.prog 93 #[.slice A0 l0.length c0, .string a1, .int .i64 a2] w fun e w' => ∃ v0_ : Value, e = .returned (.tuple #[v0_, .bool r2]) ∧ Kd.R k29 29 w' w.heap.size (fun _ => True) v0_ r1 ∧ Below w.heap.size w w' := by
  have hu29 := Try.underlying29
  have HR0 := Aside0.mk hr0
  have HC0 := Aside0.mk hc0
  clear hr0 hc0
  have HB := Aside0.mk (Below.refl w.heap.size w)
  have H : ((some (([] : List (S29)) : List (S29))).bind fun y225 => ((spec_PairsValid.f k l0).bind fun t228 => (if t228 = true then ((spec_KeyValid.f k a1).bind fun t229 => (if t229 = true then ((spec_l1In.f a2 0 999).bind fun t230 => (spec_PairPut.j0 k l0 a1 a2 y225 (!t230))) else (spec_PairPut.j0 k l0 a1 a2 y225 true))) else (spec_PairPut.j0 k l0 a1 a2 y225 true)))) = some (r1, r2) := h
  clear h
  obtain ⟨y225, hy225⟩ : ∃ y_ : List (S29), y_ = (([] : List (S29))) := ⟨_, rfl⟩
  replace H : ((spec_PairsValid.f k l0).bind fun t228 => (if t228 = true then ((spec_KeyValid.f k a1).bind fun t229 => (if t229 = true then ((spec_l1In.f a2 0 999).bind fun t230 => (spec_PairPut.j0 k l0 a1 a2 y225 (!t230))) else (spec_PairPut.j0 k l0 a1 a2 y225 true))) else (spec_PairPut.j0 k l0 a1 a2 y225 true))) = some (r1, r2) := by first | (rw [hy225]; with_reducible exact H) | (have H2_ := (Option.bind_some _ _).symm.trans H; rw [hy225]; with_reducible exact H2_) | (have H2_ := (Option.bind_some _ _).symm.trans H; with_reducible exact H2_) | with_reducible exact H | (rw [hy225]; exact H) | exact H
  have Ny225 := Aside0.mk hy225
  clear hy225
  have HC4 := Aside0.mk H
  clear H
  go_enter Try.func93, Try.ntmps93
  go_upto_region 2 with (first | ((with_reducible refine gate_dst (N := 10) rfl ?_); refine Kd.R_lit k29 _ 29 ?hg (N := 10) ?hd (xs := ([] : List (S29))) (inner := []) (ok := fun _ => True) (okp := fun _ => True) ?hr ?hp (fun _ hk => hk) trivial (Below.refl _ _) (Nat.le_refl _) (by simp) ?_; (case hd => rfl); (case hg => rfl); (case hr => first | (go_simp; done) | (go_simp; rfl)); (case hp => exact (Reps.none _ _)); intro v226 w5 ho6 hb hg_ hnew_; clear hg_ hnew_; (first | rw [← Ny225.out] at ho6 | (simp only [Int.reduceToNat] at ho6; rw [← Ny225.out] at ho6)); have n0_ := Aside0.mk (Kd.R_lower ho6 (below_size (bp HB.out))); have n1_ := an0 HB hb; clear HB; have HO227 := n0_; have HB := n1_; clear n0_ n1_; clear hb ho6))
  (try simp only [Act.put, List.setIfInBounds_toArray, List.set_cons_zero, List.set_cons_succ])
  go_cut [23] (fun v23 wc => ∃ (kq : Nat) (x23_3 : Bool), v23 = .bool x23_3 ∧ Aside0 (spec_PairPut.j0 kq l0 a1 a2 y225 x23_3 = some (r1, r2)) ∧ Aside0 (kq ≤ k) ∧ Aside0 (Kd.R k29 29 wc w.heap.size (fun _ => True) v226 y225) ∧ Aside0 (Below w.heap.size w wc))
  case first =>
    have H := HC4.out
    clear HC4
    replace H := Option.bind_eq_some_iff.mp H
    obtain ⟨t228, A70, H⟩ := H
    replace H : (if t228 = true then ((spec_KeyValid.f k a1).bind fun t229 => (if t229 = true then ((spec_l1In.f a2 0 999).bind fun t230 => (spec_PairPut.j0 k l0 a1 a2 y225 (!t230))) else (spec_PairPut.j0 k l0 a1 a2 y225 true))) else (spec_PairPut.j0 k l0 a1 a2 y225 true)) = some (r1, r2) := H
    have A7 := Aside0.mk A70
    clear A70
    by_cases c8 : t228 = true
    · subst c8
      have H1 : ((spec_KeyValid.f k a1).bind fun t229 => (if t229 = true then ((spec_l1In.f a2 0 999).bind fun t230 => (spec_PairPut.j0 k l0 a1 a2 y225 (!t230))) else (spec_PairPut.j0 k l0 a1 a2 y225 true))) = some (r1, r2) := by rw [if_pos rfl] at H; exact H
      clear H
      have H := H1
      clear H1
      replace H := Option.bind_eq_some_iff.mp H
      obtain ⟨t229, A90, H⟩ := H
      replace H : (if t229 = true then ((spec_l1In.f a2 0 999).bind fun t230 => (spec_PairPut.j0 k l0 a1 a2 y225 (!t230))) else (spec_PairPut.j0 k l0 a1 a2 y225 true)) = some (r1, r2) := H
      have A9 := Aside0.mk A90
      clear A90
      by_cases c10 : t229 = true
      · subst c10
        have H1 : ((spec_l1In.f a2 0 999).bind fun t230 => (spec_PairPut.j0 k l0 a1 a2 y225 (!t230))) = some (r1, r2) := by rw [if_pos rfl] at H; exact H
        clear H
        have H := H1
        clear H1
        replace H := Option.bind_eq_some_iff.mp H
        obtain ⟨t230, A110, H⟩ := H
        replace H : (spec_PairPut.j0 k l0 a1 a2 y225 (!t230)) = some (r1, r2) := H
        have A11 := Aside0.mk A110
        clear A110
        have H' := Aside0.mk H
        clear H
        go_wp2_with (first | ((with_reducible refine gate_callee (f := 72) rfl ?_); refine gsl (some 12) rfl Try.func72 #[.slice A0 l0.length c0] rfl ?_; (with_reducible refine (spec_PairsValid.calls k _ _ l0 true _ ?side1 ?side2 A7.out).mono ?_); (case side1 => exact cc (Kd.C_below HR0.out HB.out)); (case side2 => exact HC0.out); rintro e w12 ⟨rfl, hb⟩; refine ⟨_, rfl, ?_⟩; have n0_ := Aside0.mk (Kd.R_below (kr HO227.out) hb); have n1_ := an0 HB hb; clear HO227; clear HB; have HO227 := n0_; have HB := n1_; clear n0_ n1_; (try clear hb); (try clear hb2); (try clear hk); (try clear hi)) | (go_at_call 113; (with_reducible refine (spec_KeyValid.calls k a1 true _ A9.out).mono ?_); rintro e w' ⟨rfl, ⟨nd, rfl⟩⟩) | (go_at_call 112; (with_reducible refine (spec_l1In.calls a2 0 999 t230 _ A11.out).mono ?_); rintro e w' ⟨rfl, ⟨nd, rfl⟩⟩))
        go_meet
        case rel => exact ⟨_, (!t230), (by first | rfl | (simp; done) | (simp [*]; done) | (simp [bne_nil_, beq_nil_]; done)), H', ⟨by first | omega | exact Nat.le_refl _⟩, ⟨by (with_reducible repeat (first | apply Kd.R_alloc | apply Kd.R_drewN | apply Kd.R_drew)); exact HO227.out⟩, ⟨bp HB.out⟩⟩
      · replace c10 := Bool.eq_false_iff.mpr c10
        subst c10
        have H1 : (spec_PairPut.j0 k l0 a1 a2 y225 true) = some (r1, r2) := by rw [if_neg (show ¬ (false = true) by decide)] at H; exact H
        clear H
        have H := H1
        clear H1
        have H' := Aside0.mk H
        clear H
        go_wp2_with (first | ((with_reducible refine gate_callee (f := 72) rfl ?_); refine gsl (some 12) rfl Try.func72 #[.slice A0 l0.length c0] rfl ?_; (with_reducible refine (spec_PairsValid.calls k _ _ l0 true _ ?side1 ?side2 A7.out).mono ?_); (case side1 => exact cc (Kd.C_below HR0.out HB.out)); (case side2 => exact HC0.out); rintro e w13 ⟨rfl, hb⟩; refine ⟨_, rfl, ?_⟩; have n0_ := Aside0.mk (Kd.R_below (kr HO227.out) hb); have n1_ := an0 HB hb; clear HO227; clear HB; have HO227 := n0_; have HB := n1_; clear n0_ n1_; (try clear hb); (try clear hb2); (try clear hk); (try clear hi)) | (go_at_call 113; (with_reducible refine (spec_KeyValid.calls k a1 false _ A9.out).mono ?_); rintro e w' ⟨rfl, ⟨nd, rfl⟩⟩))
        go_meet
        case rel => exact ⟨_, (true), (by first | rfl | (simp; done) | (simp [*]; done) | (simp [bne_nil_, beq_nil_]; done)), H', ⟨by first | omega | exact Nat.le_refl _⟩, ⟨by (with_reducible repeat (first | apply Kd.R_alloc | apply Kd.R_drewN | apply Kd.R_drew)); exact HO227.out⟩, ⟨bp HB.out⟩⟩
    · replace c8 := Bool.eq_false_iff.mpr c8
      subst c8
      have H1 : (spec_PairPut.j0 k l0 a1 a2 y225 true) = some (r1, r2) := by rw [if_neg (show ¬ (false = true) by decide)] at H; exact H
      clear H
      have H := H1
      clear H1
      have H' := Aside0.mk H
      clear H
      go_wp2_with (first | ((with_reducible refine gate_callee (f := 72) rfl ?_); refine gsl (some 12) rfl Try.func72 #[.slice A0 l0.length c0] rfl ?_; (with_reducible refine (spec_PairsValid.calls k _ _ l0 false _ ?side1 ?side2 A7.out).mono ?_); (case side1 => exact cc (Kd.C_below HR0.out HB.out)); (case side2 => exact HC0.out); rintro e w14 ⟨rfl, hb⟩; refine ⟨_, rfl, ?_⟩; have n0_ := Aside0.mk (Kd.R_below (kr HO227.out) hb); have n1_ := an0 HB hb; clear HO227; clear HB; have HO227 := n0_; have HB := n1_; clear n0_ n1_; (try clear hb); (try clear hb2); (try clear hk); (try clear hi)))
      go_meet
      case rel => exact ⟨_, (true), (by first | rfl | (simp; done) | (simp [*]; done) | (simp [bne_nil_, beq_nil_]; done)), H', ⟨by first | omega | exact Nat.le_refl _⟩, ⟨by (with_reducible repeat (first | apply Kd.R_alloc | apply Kd.R_drewN | apply Kd.R_drew)); exact HO227.out⟩, ⟨bp HB.out⟩⟩
  case rest =>
    clear HC4
    try clear c1
    try clear p2
    try clear c7
    try clear c8
    try clear c9
    try clear c10
    obtain ⟨kq, x23_3, rfl, HA, HJ3, HO_8, HB⟩ := hcut
    cases kq with
    | zero => exact absurd HA.out (by simp [spec_PairPut.j0])
    | succ kj3 =>
      have H := HA.out
      clear HA
      simp only [spec_PairPut.j0] at H
      by_cases c15 : x23_3 = true
      · subst c15
        have H1 : (some (y225, false)) = some (r1, r2) := by rw [if_pos rfl] at H; exact H
        clear H
        have H := H1
        clear H1
        simp only [Option.some.injEq, Prod.mk.injEq] at H
        obtain ⟨rfl, rfl⟩ := H
        go_wp2
        go_ret2
        exact ⟨_, fe, by (with_reducible repeat (first | apply Kd.R_alloc | apply Kd.R_drewN | apply Kd.R_drew)); exact HO_8.out, bp HB.out⟩
      · replace c15 := Bool.eq_false_iff.mpr c15
        subst c15
        have H1 : ((spec_l4Place.f kj3 l0 a1).bind fun t231 => (if t231 < (l0.length : Int) then (if 0 ≤ t231 then (spec_PairPut.j1 kj3 l0 a1 a2 y225 t231 (((rd_T29 l0 t231).f0).toList == a1.toList)) else (none)) else (spec_PairPut.j1 kj3 l0 a1 a2 y225 t231 false))) = some (r1, r2) := by rw [if_neg (show ¬ (false = true) by decide)] at H; exact H
        clear H
        have H := H1
        clear H1
        replace H := Option.bind_eq_some_iff.mp H
        obtain ⟨t231, A160, H⟩ := H
        replace H : (if t231 < (l0.length : Int) then (if 0 ≤ t231 then (spec_PairPut.j1 kj3 l0 a1 a2 y225 t231 (((rd_T29 l0 t231).f0).toList == a1.toList)) else (none)) else (spec_PairPut.j1 kj3 l0 a1 a2 y225 t231 false)) = some (r1, r2) := H
        have A16 := Aside0.mk A160
        clear A160
        have HC17 := Aside0.mk H
        clear H
        go_upto_region 5 with (first | ((with_reducible refine gate_callee (f := 136) rfl ?_); refine gsl (some 27) rfl Try.func136 #[.slice A0 l0.length c0, .string a1] rfl ?_; (with_reducible refine (spec_l4Place.calls kj3 _ _ l0 a1 t231 _ ?side1 ?side2 A16.out).mono ?_); (case side1 => exact cc (Kd.C_below HR0.out HB.out)); (case side2 => exact HC0.out); rintro e w' ⟨rfl, ⟨nd, rfl⟩⟩; refine ⟨_, rfl, ?_⟩))
        (try simp only [Act.put, List.setIfInBounds_toArray, List.set_cons_zero, List.set_cons_succ])
        go_cut [40] (fun v40 wc => ∃ (kq : Nat) (x40_16 : Bool), v40 = .bool x40_16 ∧ Aside0 (spec_PairPut.j1 kq l0 a1 a2 y225 t231 x40_16 = some (r1, r2)) ∧ Aside0 (kq ≤ kj3) ∧ Aside0 (Kd.R k29 29 wc w.heap.size (fun _ => True) v226 y225) ∧ Aside0 (Below w.heap.size w wc))
        case first =>
          have H := HC17.out
          clear HC17
          by_cases c18 : t231 < (l0.length : Int)
          · rw [if_pos c18] at H
            have c18b0 : decide (t231 < (l0.length : Int)) = true := decide_eq_true c18
            clear c18
            (first | rw [c18b0] | (simp only [i64_w, i32_w]; rw [c18b0]) | skip)
            by_cases c19 : 0 ≤ t231
            · rw [if_pos c19] at H
              have c19b0 : decide (0 ≤ t231) = true := decide_eq_true c19
              clear c19
              have H' := Aside0.mk H
              clear H
              have p232 : 0 ≤ (t231 : Int) := of_decide_eq_true (by first | (with_reducible assumption) | assumption)
              have q232 : t231 < (l0.length : Int) := of_decide_eq_true (by first | (with_reducible assumption) | assumption)
              obtain ⟨ad232, e232, hx232_0, hx232_1⟩ := at_T29 HR0.out t231 p232 q232
              cases e232
              replace hx232_0 := hcx HB hx232_0
              replace hx232_1 := hcx HB hx232_1
              replace p232 := eq_true p232
              replace q232 := eq_true q232
              go_wp2
              go_meet
              case rel => exact ⟨_, ((((rd_T29 l0 t231).f0).toList == a1.toList)), (by first | rfl | (simp; done) | (simp [*]; done) | (simp [bne_nil_, beq_nil_]; done)), H', ⟨by have := HJ3.out; first | omega | exact Nat.le_refl _⟩, ⟨by (with_reducible repeat (first | apply Kd.R_alloc | apply Kd.R_drewN | apply Kd.R_drew)); exact HO_8.out⟩, ⟨bp HB.out⟩⟩
            · rw [if_neg c19] at H
              exact absurd H (by simp)
          · rw [if_neg c18] at H
            have c18b0 : decide (t231 < (l0.length : Int)) = false := decide_eq_false c18
            clear c18
            (first | rw [c18b0] | (simp only [i64_w, i32_w]; rw [c18b0]) | skip)
            have H' := Aside0.mk H
            clear H
            go_wp2
            go_meet
            case rel => exact ⟨_, (false), (by first | rfl | (simp; done) | (simp [*]; done) | (simp [bne_nil_, beq_nil_]; done)), H', ⟨by have := HJ3.out; first | omega | exact Nat.le_refl _⟩, ⟨by (with_reducible repeat (first | apply Kd.R_alloc | apply Kd.R_drewN | apply Kd.R_drew)); exact HO_8.out⟩, ⟨bp HB.out⟩⟩
        case rest =>
          clear HC17
          try clear c1
          try clear p2
          try clear q2
          try clear hx2
          try clear p6
          try clear c7
          try clear c8
          try clear c9
          try clear c10
          try clear c13
          try clear c15
          try clear c18
          try clear c18b0
          try clear c19
          try clear c19b0
          try clear hx232_0
          try clear hx232_1
          try clear p2
          try clear p232
          try clear q232
          obtain ⟨kq, x40_16, rfl, HA, HJ16, HO_8, HB⟩ := hcut
          cases kq with
          | zero => exact absurd HA.out (by simp [spec_PairPut.j1])
          | succ kj16 =>
            have H := HA.out
            clear HA
            simp only [spec_PairPut.j1] at H
            by_cases c20 : x40_16 = true
            · subst c20
              have H1 : (if y225.length + l0.length < 5864062014805 then ((some (y225 ++ l0 : List (S29))).bind fun y233 => (if 0 ≤ t231 then (if t231 < (y233.length : Int) then (some ((y233.set (t231 : Int).toNat (⟨(rd_T29 y233 t231).f0, a2⟩ : S29)), true)) else (none)) else (none))) else (none)) = some (r1, r2) := by rw [if_pos rfl] at H; exact H
              clear H
              have H := H1
              clear H1
              by_cases c21 : y225.length + l0.length < 5864062014805
              · rw [if_pos c21] at H
                have LMc21 := Aside0.mk c21
                clear c21
                obtain ⟨y233, hy233⟩ : ∃ y_ : List (S29), y_ = (y225 ++ l0) := ⟨_, rfl⟩
                replace H : (if 0 ≤ t231 then (if t231 < (y233.length : Int) then (some ((y233.set (t231 : Int).toNat (⟨(rd_T29 y233 t231).f0, a2⟩ : S29)), true)) else (none)) else (none)) = some (r1, r2) := by first | (rw [hy233]; with_reducible exact H) | (have H2_ := (Option.bind_some _ _).symm.trans H; rw [hy233]; with_reducible exact H2_) | (have H2_ := (Option.bind_some _ _).symm.trans H; with_reducible exact H2_) | with_reducible exact H | (rw [hy233]; exact H) | exact H
                have Ny233 := Aside0.mk hy233
                clear hy233
                by_cases c22 : 0 ≤ t231
                · rw [if_pos c22] at H
                  have c22b0 : decide (0 ≤ t231) = true := decide_eq_true c22
                  clear c22
                  by_cases c23 : t231 < (y233.length : Int)
                  · rw [if_pos c23] at H
                    have c23b0 : decide (t231 < (y233.length : Int)) = true := decide_eq_true c23
                    clear c23
                    obtain ⟨y236, hy236⟩ : ∃ y_ : List (S29), y_ = (y233.set (t231 : Int).toNat (⟨(rd_T29 y233 t231).f0, a2⟩ : S29)) := ⟨_, rfl⟩
                    replace H : (some (y236, true)) = some (r1, r2) := by first | (rw [hy236]; with_reducible exact H) | (have H2_ := (Option.bind_some _ _).symm.trans H; rw [hy236]; with_reducible exact H2_) | (have H2_ := (Option.bind_some _ _).symm.trans H; with_reducible exact H2_) | with_reducible exact H | (rw [hy236]; exact H) | exact H
                    have Ny236 := Aside0.mk hy236
                    clear hy236
                    simp only [Option.some.injEq, Prod.mk.injEq] at H
                    obtain ⟨rfl, rfl⟩ := H
                    go_wp2_with (first | ((with_reducible refine gate_builtin (b := .append) (xs := #[.tmp 41, .tmp 42]) rfl ?_); at_builtin; refine Kd.R_append_rows k29 (w0 := w) w.heap.size rfl (.tmp 41) (.tmp 42) 23 29 (.agg #[(.string ⟨#[]⟩), (.int .i64 0)]) 24 rfl Try.underlying23 info29 rfl (by decide) (by omega) v226 y225 l0 _ _ _ (fun _ => True) (fun _ => False) rfl rfl ?aO ?aR (fun _ _ h => h) (fun _ h => h.elim) ?aF ?aB ?aS ?aL ?_; (case aR => exact cc (Kd.C_below HR0.out HB.out)); (case aB => exact (bp HB.out)); (case aF => exact (fun _ _ => trivial)); (case aO => exact (kr HO_8.out)); (case aS => exact (below_size (bp HB.out))); (case aL => have := LMc21.out; omega); intro v234 w25 ho hb hg hat; rw [← Ny233.out] at ho; have n0_ := Aside0.mk (hb); have n1_ := Aside0.mk (ho); clear HB; clear HO_8; have HB := n0_; have HO235 := n1_; clear n0_ n1_; clear ho hb hg hat; have p24 : 0 ≤ (t231 : Int) := of_decide_eq_true (by first | (with_reducible assumption) | assumption); have q24 : (t231 : Int) < ((y233.length : Int) : Int) := of_decide_eq_true (by first | (with_reducible assumption) | assumption); obtain ⟨go24, co24, eo24, gb24, gl24, cl24, HG24⟩ := Kd.R_form HO235.out (by omega); (first | cases eo24 | (injection eo24 with ea_ en_ ec_; (first | subst ea_ | (injection ea_ with ea_; subst ea_)); subst ec_; clear en_)); have GB24 := Aside0.mk gb24; have GG24 := Aside0.mk HG24; clear gb24 gl24 HG24; obtain ⟨ce24, hcl24, hM24, hcc24, hfr24⟩ := Kd.R_elem HO235.out z29 (t231 : Int) p24 q24; obtain rfl := k29_openM hM24; have hx24_0 : w25.cell? ⟨go24, (t231 : Int).toNat * 2, none⟩ = some (.string ((rd_T29 y233 t231).f0)) := hcc24 0 _ rfl; have hx24_1 : w25.cell? ⟨go24, (t231 : Int).toNat * 2 + 1, none⟩ = some (.int .i64 ((rd_T29 y233 t231).f1)) := hcc24 1 _ rfl; have hf24_0 : w25.frozen? ⟨go24, (t231 : Int).toNat * 2, none⟩ = false := hfr24 0; have hf24_1 : w25.frozen? ⟨go24, (t231 : Int).toNat * 2 + 1, none⟩ = false := hfr24 1; clear hcl24 hcc24 hfr24 hM24; replace p24 := eq_true p24; replace q24 := eq_true q24; have HX26 := Aside0.mk (show Kd.R k29 29 w25 w.heap.size (fun _ => True) (.slice (some ⟨go24, 0, none⟩) y233.length co24) y233 from (kr HO235.out)); obtain ⟨ce26, hcl26, hM26, hcc26, hfr26⟩ := Kd.R_elem HX26.out z29 (t231 : Int) (of_decide_eq_true (by first | (with_reducible assumption) | assumption)) (by have h_ : (t231 : Int) < ((y233.length : Int) : Int) := of_decide_eq_true (by first | (with_reducible assumption) | assumption); first | exact h_ | (have e_ := (Kd.R_reads' HO235.out).1; omega) | simpa using h_); obtain rfl := k29_openM hM26; have HP26 := Kd.R_seg HX26.out (t231 : Int) (of_decide_eq_true (by first | (with_reducible assumption) | assumption)) (by have h_ : (t231 : Int) < ((y233.length : Int) : Int) := of_decide_eq_true (by first | (with_reducible assumption) | assumption); first | exact h_ | (have e_ := (Kd.R_reads' HO235.out).1; omega) | simpa using h_) (seg := [.int .i64 a2]) (j := 1) hcl26 hcc26 (show 2 ≤ 2 from by decide) (x' := (⟨(rd_T29 y233 t231).f0, a2⟩ : S29)) (k29_mkM _ _ _ (⟨(rd_T29 y233 t231).f0, a2⟩ : S29) ) (fun _ hk => hk); have hx26_1 := hcc26 1 _ rfl; (try simp only [show (k29).sz = 2 from rfl, Nat.mul_one, Nat.add_zero] at hx26_1); have hf26_1 := hfr26 1; (try simp only [show (k29).sz = 2 from rfl, Nat.mul_one, Nat.add_zero] at hf26_1); clear hcl26 hcc26 hfr26 hM26) | ((with_reducible refine gate_store (t := 3) (p := 48) rfl ?_); refine store_event (t := 3) (p := 48) (v := ?vo_w27) (w1 := (w25.setCell ⟨go24, (t231 : Int).toNat * 2 + 1, none⟩ (.int .i64 a2))) ?hg ?ho ?hn ?hr ?_; (case ho => rfl); (case hg => rfl); (case hn => rfl); (case hr => first | (go_simp; done) | (go_simp; rfl)); intro w27 hw; have hg : w25.grownBy w27 (some go24) := (by rw [hw]; exact HP26.2); have hp_ : Kd.R k29 29 w27 w.heap.size (fun _ => True) (.slice (some ⟨go24, 0, none⟩) y233.length co24) y236 := (by rw [hw, Ny236.out]; exact HP26.1); clear HP26; have n0_ := Aside0.mk (hp_); have n1_ := Aside0.mk ((by rw [hw]; exact below_set (HB.out) GB24.out : Below w.heap.size w w27)); clear HO235; clear HB; have HO235 := n0_; have HB := n1_; clear n0_ n1_; clear hg hw hp_))
                    go_ret2
                    exact ⟨_, fe, by (with_reducible repeat (first | apply Kd.R_alloc | apply Kd.R_drewN | apply Kd.R_drew)); exact HO235.out, bp HB.out⟩
                  · rw [if_neg c23] at H
                    exact absurd H (by simp)
                · rw [if_neg c22] at H
                  exact absurd H (by simp)
              · rw [if_neg c21] at H
                exact absurd H (by simp)
            · replace c20 := Bool.eq_false_iff.mpr c20
              subst c20
              have H1 : (if (l0.length : Int) ≥ 48 then (if y225.length + l0.length < 5864062014805 then (some ((y225 ++ l0), false)) else (none)) else (if 0 ≤ t231 then (if t231 ≤ (l0.length : Int) then ((some (l0.take (t231 : Int).toNat : List (S29))).bind fun y240 => (if y225.length + y240.length < 5864062014805 then ((some (y225 ++ y240 : List (S29))).bind fun y244 => (if y244.length < 5864062014805 then ((some (y244 ++ [(⟨a1, a2⟩ : S29)] : List (S29))).bind fun y247 => ((some (l0.drop (t231 : Int).toNat : List (S29))).bind fun y250 => (if y247.length + y250.length < 5864062014805 then (some ((y247 ++ y250), true)) else (none)))) else (none))) else (none))) else (none)) else (none))) = some (r1, r2) := by rw [if_neg (show ¬ (false = true) by decide)] at H; exact H
              clear H
              have H := H1
              clear H1
              by_cases c28 : (l0.length : Int) ≥ 48
              · rw [if_pos c28] at H
                have c28b0 : decide (48 ≤ (l0.length : Int)) = true := decide_eq_true c28
                have c28b1 : decide (48 ≤ l0.length) = true := decide_eq_true (by omega)
                clear c28
                by_cases c29 : y225.length + l0.length < 5864062014805
                · rw [if_pos c29] at H
                  have LMc29 := Aside0.mk c29
                  clear c29
                  obtain ⟨y237, hy237⟩ : ∃ y_ : List (S29), y_ = (y225 ++ l0) := ⟨_, rfl⟩
                  replace H : (some (y237, false)) = some (r1, r2) := by first | (rw [hy237]; with_reducible exact H) | (have H2_ := (Option.bind_some _ _).symm.trans H; rw [hy237]; with_reducible exact H2_) | (have H2_ := (Option.bind_some _ _).symm.trans H; with_reducible exact H2_) | with_reducible exact H | (rw [hy237]; exact H) | exact H
                  have Ny237 := Aside0.mk hy237
                  clear hy237
                  simp only [Option.some.injEq, Prod.mk.injEq] at H
                  obtain ⟨rfl, rfl⟩ := H
                  go_wp2_with (first | ((with_reducible refine gate_builtin (b := .append) (xs := #[.tmp 53, .tmp 54]) rfl ?_); at_builtin; refine Kd.R_append_rows k29 (w0 := w) w.heap.size rfl (.tmp 53) (.tmp 54) 23 29 (.agg #[(.string ⟨#[]⟩), (.int .i64 0)]) 24 rfl Try.underlying23 info29 rfl (by decide) (by omega) v226 y225 l0 _ _ _ (fun _ => True) (fun _ => False) rfl rfl ?aO ?aR (fun _ _ h => h) (fun _ h => h.elim) ?aF ?aB ?aS ?aL ?_; (case aR => exact cc (Kd.C_below HR0.out HB.out)); (case aB => exact (bp HB.out)); (case aF => exact (fun _ _ => trivial)); (case aO => exact (kr HO_8.out)); (case aS => exact (below_size (bp HB.out))); (case aL => have := LMc29.out; omega); intro v238 w30 ho hb hg hat; rw [← Ny237.out] at ho; have n0_ := Aside0.mk (hb); have n1_ := Aside0.mk (ho); clear HB; clear HO_8; have HB := n0_; have HO239 := n1_; clear n0_ n1_; clear ho hb hg hat))
                  go_ret2
                  exact ⟨_, fe, by (with_reducible repeat (first | apply Kd.R_alloc | apply Kd.R_drewN | apply Kd.R_drew)); exact HO239.out, bp HB.out⟩
                · rw [if_neg c29] at H
                  exact absurd H (by simp)
              · rw [if_neg c28] at H
                have c28b0 : decide (48 ≤ (l0.length : Int)) = false := decide_eq_false c28
                have c28b1 : decide (48 ≤ l0.length) = false := decide_eq_false (by omega)
                clear c28
                by_cases c31 : 0 ≤ t231
                · rw [if_pos c31] at H
                  have c31b0 := eq_true c31
                  have c31b1 : decide (0 ≤ t231) = true := decide_eq_true c31
                  clear c31
                  by_cases c32 : t231 ≤ (l0.length : Int)
                  · rw [if_pos c32] at H
                    have c32b0 := eq_true c32
                    have c32b1 : decide (t231 ≤ (l0.length : Int)) = true := decide_eq_true c32
                    clear c32
                    obtain ⟨y240, hy240⟩ : ∃ y_ : List (S29), y_ = (l0.take (t231 : Int).toNat) := ⟨_, rfl⟩
                    replace H : (if y225.length + y240.length < 5864062014805 then ((some (y225 ++ y240 : List (S29))).bind fun y244 => (if y244.length < 5864062014805 then ((some (y244 ++ [(⟨a1, a2⟩ : S29)] : List (S29))).bind fun y247 => ((some (l0.drop (t231 : Int).toNat : List (S29))).bind fun y250 => (if y247.length + y250.length < 5864062014805 then (some ((y247 ++ y250), true)) else (none)))) else (none))) else (none)) = some (r1, r2) := by first | (rw [hy240]; with_reducible exact H) | (have H2_ := (Option.bind_some _ _).symm.trans H; rw [hy240]; with_reducible exact H2_) | (have H2_ := (Option.bind_some _ _).symm.trans H; with_reducible exact H2_) | with_reducible exact H | (rw [hy240]; exact H) | exact H
                    have Ny240 := Aside0.mk hy240
                    clear hy240
                    by_cases c33 : y225.length + y240.length < 5864062014805
                    · rw [if_pos c33] at H
                      have LMc33 := Aside0.mk c33
                      clear c33
                      obtain ⟨y244, hy244⟩ : ∃ y_ : List (S29), y_ = (y225 ++ y240) := ⟨_, rfl⟩
                      replace H : (if y244.length < 5864062014805 then ((some (y244 ++ [(⟨a1, a2⟩ : S29)] : List (S29))).bind fun y247 => ((some (l0.drop (t231 : Int).toNat : List (S29))).bind fun y250 => (if y247.length + y250.length < 5864062014805 then (some ((y247 ++ y250), true)) else (none)))) else (none)) = some (r1, r2) := by first | (rw [hy244]; with_reducible exact H) | (have H2_ := (Option.bind_some _ _).symm.trans H; rw [hy244]; with_reducible exact H2_) | (have H2_ := (Option.bind_some _ _).symm.trans H; with_reducible exact H2_) | with_reducible exact H | (rw [hy244]; exact H) | exact H
                      have Ny244 := Aside0.mk hy244
                      clear hy244
                      by_cases c34 : y244.length < 5864062014805
                      · rw [if_pos c34] at H
                        have LMc34 := Aside0.mk c34
                        clear c34
                        obtain ⟨y247, hy247⟩ : ∃ y_ : List (S29), y_ = (y244 ++ [(⟨a1, a2⟩ : S29)]) := ⟨_, rfl⟩
                        replace H : ((some (l0.drop (t231 : Int).toNat : List (S29))).bind fun y250 => (if y247.length + y250.length < 5864062014805 then (some ((y247 ++ y250), true)) else (none))) = some (r1, r2) := by first | (rw [hy247]; with_reducible exact H) | (have H2_ := (Option.bind_some _ _).symm.trans H; rw [hy247]; with_reducible exact H2_) | (have H2_ := (Option.bind_some _ _).symm.trans H; with_reducible exact H2_) | with_reducible exact H | (rw [hy247]; exact H) | exact H
                        have Ny247 := Aside0.mk hy247
                        clear hy247
                        have c35b0 := eq_true (of_decide_eq_true (by first | (with_reducible assumption) | assumption) : 0 ≤ t231)
                        have c36b0 := eq_true (of_decide_eq_true (by first | (with_reducible assumption) | assumption) : t231 ≤ (l0.length : Int))
                        obtain ⟨y250, hy250⟩ : ∃ y_ : List (S29), y_ = (l0.drop (t231 : Int).toNat) := ⟨_, rfl⟩
                        replace H : (if y247.length + y250.length < 5864062014805 then (some ((y247 ++ y250), true)) else (none)) = some (r1, r2) := by first | (rw [hy250]; with_reducible exact H) | (have H2_ := (Option.bind_some _ _).symm.trans H; rw [hy250]; with_reducible exact H2_) | (have H2_ := (Option.bind_some _ _).symm.trans H; with_reducible exact H2_) | with_reducible exact H | (rw [hy250]; exact H) | exact H
                        have Ny250 := Aside0.mk hy250
                        clear hy250
                        by_cases c37 : y247.length + y250.length < 5864062014805
                        · rw [if_pos c37] at H
                          have LMc37 := Aside0.mk c37
                          clear c37
                          obtain ⟨y254, hy254⟩ : ∃ y_ : List (S29), y_ = (y247 ++ y250) := ⟨_, rfl⟩
                          replace H : (some (y254, true)) = some (r1, r2) := by first | (rw [hy254]; with_reducible exact H) | (have H2_ := (Option.bind_some _ _).symm.trans H; rw [hy254]; with_reducible exact H2_) | (have H2_ := (Option.bind_some _ _).symm.trans H; with_reducible exact H2_) | with_reducible exact H | (rw [hy254]; exact H) | exact H
                          have Ny254 := Aside0.mk hy254
                          clear hy254
                          simp only [Option.some.injEq, Prod.mk.injEq] at H
                          obtain ⟨rfl, rfl⟩ := H
                          have q38 : (t231 : Int) ≤ ((l0.length : Int) : Int) := of_decide_eq_true (by first | (with_reducible assumption) | assumption)
                          obtain ⟨i038, hi038, _, hsz38, _⟩ := info_parts info29
                          have hroom38 : l0.length ≤ c0 := HC0.out
                          have hC38 : Kd.C k29 _ A0 l0.length l0 := HR0.out
                          have hcut38 := cut_to (P := Try.prog) 23 29 .i64 Try.underlying23 hi038 A0 l0.length c0 t231 (of_decide_eq_true (by first | (with_reducible assumption) | assumption)) q38 hroom38
                          have hr38 := Kd.C_take (m := (t231 : Int).toNat) hC38 (by omega)
                          have hy38 : y240.length = (t231 : Int).toNat := (by rw [Ny240.out, List.length_take]; omega)
                          rw [← Ny240.out] at hr38
                          rw [← hy38] at hcut38
                          have HR243 := Aside0.mk hr38
                          have HC243 := Aside0.mk (show y240.length ≤ c0 from by omega)
                          clear hr38 hC38 hroom38 hi038 hsz38
                          have KY38 := Aside0.mk hy38
                          clear hy38
                          replace q38 := eq_true q38
                          go_wp2_with (first | ((with_reducible refine gate_builtin (b := .append) (xs := #[.tmp 56, .tmp 59]) rfl ?_); at_builtin; refine Kd.R_append_rows k29 (w0 := w) w.heap.size rfl (.tmp 56) (.tmp 59) 23 29 (.agg #[(.string ⟨#[]⟩), (.int .i64 0)]) 24 rfl Try.underlying23 info29 rfl (by decide) (by omega) v226 y225 y240 _ _ _ (fun _ => True) (fun _ => False) rfl rfl ?aO ?aR (fun _ _ h => h) (fun _ h => h.elim) ?aF ?aB ?aS ?aL ?_; (case aR => exact cc (Kd.C_below HR243.out HB.out)); (case aB => exact (bp HB.out)); (case aF => exact (fun _ _ => trivial)); (case aO => exact (kr HO_8.out)); (case aS => exact (below_size (bp HB.out))); (case aL => have := LMc33.out; omega); intro v245 w39 ho hb hg hat; rw [← Ny244.out] at ho; have n0_ := Aside0.mk (hb); have n1_ := Aside0.mk (ho); clear HB; clear HO_8; have HB := n0_; have HO246 := n1_; clear n0_ n1_; clear ho hb hg hat) | ((with_reducible refine gate_builtin (b := .append) (xs := #[.tmp 61, .tmp 65]) rfl ?_); at_builtin; refine Kd.R_append k29 (w0 := w) w.heap.size rfl (.tmp 61) (.tmp 65) 23 29 (.agg #[(.string ⟨#[]⟩), (.int .i64 0)]) 24 rfl Try.underlying23 info29 rfl (by decide) (by omega) v245 y244 (⟨a1, a2⟩ : S29) [.string a1, .int .i64 a2] (fun _ => True) (fun _ => False) rfl rfl ?aP (fun _ hk => hk.elim) ?aF ?aO ?aB ?aS ?aL ?_; (case aP => exact k29_mkM _ _ _ (⟨a1, a2⟩ : S29)); (case aB => exact (bp HB.out)); (case aF => exact (fun _ _ => trivial)); (case aO => exact (kr HO246.out)); (case aS => exact (below_size (bp HB.out))); (case aL => have := LMc34.out; omega); intro v248 w40 ho hb hg hat; rw [← Ny247.out] at ho; have n0_ := Aside0.mk (hb); have n1_ := Aside0.mk (ho); clear HB; clear HO246; have HB := n0_; have HO249 := n1_; clear n0_ n1_; clear ho hb hg hat; have q41 : (t231 : Int) ≤ ((l0.length : Int) : Int) := of_decide_eq_true (by first | (with_reducible assumption) | assumption); obtain ⟨i041, hi041, _, hsz41, _⟩ := info_parts info29; have hroom41 : l0.length ≤ c0 := HC0.out; have hC41 : Kd.C k29 _ A0 l0.length l0 := HR0.out; have q041 : (0 : Int) ≤ (t231 : Int) := of_decide_eq_true (by first | (with_reducible assumption) | assumption); have hcut41 := cut_from (P := Try.prog) 23 29 .i64 Try.underlying23 hi041 2 hsz41 A0 l0.length c0 t231 q041 q41; have hr41 := Kd.C_drop (m := (t231 : Int).toNat) (c := c0) hC41 (by omega) hroom41; obtain ⟨A41, hA41⟩ : ∃ A_, A_ = (if c0 = (t231 : Int).toNat then A0 else (A0 : Option Addr).map (·.add ((t231 : Int).toNat * 2))) := ⟨_, rfl⟩; obtain ⟨c41, hc41⟩ : ∃ c_, c_ = c0 - (t231 : Int).toNat := ⟨_, rfl⟩; have hy41 : y250.length = l0.length - (t231 : Int).toNat := (by rw [Ny250.out, List.length_drop] <;> omega); rw [show (l0).drop (t231 : Int).toNat = y250 from Ny250.out.symm] at hr41; replace hr41 : Kd.C k29 _ A41 y250.length y250 := (by rw [hA41]; exact hr41); rw [← hy41, ← hA41, ← hc41] at hcut41; have HR253 := Aside0.mk hr41; have HC253 := Aside0.mk (show y250.length ≤ c41 from by rw [hy41, hc41]; exact Nat.sub_le_sub_right hroom41 _); clear hr41 hC41 hroom41 hi041 hsz41 hc41; have KY41 := Aside0.mk hy41; have KA41 := Aside0.mk hA41; clear hy41 hA41; replace q41 := eq_true q41) | ((with_reducible refine gate_builtin (b := .append) (xs := #[.tmp 67, .tmp 70]) rfl ?_); at_builtin; refine Kd.R_append_rows k29 (w0 := w) w.heap.size rfl (.tmp 67) (.tmp 70) 23 29 (.agg #[(.string ⟨#[]⟩), (.int .i64 0)]) 24 rfl Try.underlying23 info29 rfl (by decide) (by omega) v248 y247 y250 _ _ _ (fun _ => True) (fun _ => False) rfl rfl ?aO ?aR (fun _ _ h => h) (fun _ h => h.elim) ?aF ?aB ?aS ?aL ?_; (case aR => exact cc (Kd.C_below HR253.out HB.out)); (case aB => exact (bp HB.out)); (case aF => exact (fun _ _ => trivial)); (case aO => exact (kr HO249.out)); (case aS => exact (below_size (bp HB.out))); (case aL => have := LMc37.out; omega); intro v255 w42 ho hb hg hat; rw [← Ny254.out] at ho; have n0_ := Aside0.mk (hb); have n1_ := Aside0.mk (ho); clear HB; clear HO249; have HB := n0_; have HO256 := n1_; clear n0_ n1_; clear ho hb hg hat))
                          go_ret2
                          exact ⟨_, fe, by (with_reducible repeat (first | apply Kd.R_alloc | apply Kd.R_drewN | apply Kd.R_drew)); exact HO256.out, bp HB.out⟩
                        · rw [if_neg c37] at H
                          exact absurd H (by simp)
                      · rw [if_neg c34] at H
                        exact absurd H (by simp)
                    · rw [if_neg c33] at H
                      exact absurd H (by simp)
                  · rw [if_neg c32] at H
                    exact absurd H (by simp)
                · rw [if_neg c31] at H
                  exact absurd H (by simp)

end Go.Proofs.Ytfeeifefmenlmaa.PFnRealTime
