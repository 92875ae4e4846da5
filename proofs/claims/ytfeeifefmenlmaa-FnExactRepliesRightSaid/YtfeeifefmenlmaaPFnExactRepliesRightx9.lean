-- Written by a program of this session, in the manner of the kit's print (wip/pp.py): functions and their contracts.
import Derived.Test.YtfeeifefmenlmaaPFnExactRepliesRightx0
import Derived.Test.YtfeeifefmenlmaaPFnExactRepliesRightx6
import Derived.Test.YtfeeifefmenlmaaPFnExactRepliesRightx7
import Derived.Test.YtfeeifefmenlmaaPFnExactRepliesRightx8
namespace Go.Proofs.Ytfeeifefmenlmaa.PFnExactRepliesRight
open Go.RowKit Go.Proofs.YtfeeifefmenlmaaW.PrintWords Go.Proofs.YtfeeifefmenlmaaW.PrintLast Go.Proofs.YtfeeifefmenlmaaW.PrintMore
attribute [local go_sem] binOp_leq_str binOp_gtr_str binOp_geq_str max2_int min2_int max_two min_two max_three min_three max_four min_four   -- for this text's walks alone
set_option linter.unusedVariables false
set_option linter.unusedSimpArgs false

/-! ### impl_PairDrop: function 98 -/
def impl_PairDrop.f (k : Nat) (l0 : List (S29)) (a1 : ByteArray) : Option ((List (S29)) × Bool) := (impl_PairsValid.f k l0).bind fun t352 => (if t352 = true then ((impl_pairPlace.f k l0 a1).bind fun bt353 => (if bt353.2 = true then ((impl_Pair_137.f l0 bt353.1 1 ([] : List (S29))).bind fun t355 => (some (t355, true))) else ((impl_Pair_96.f l0).bind fun t358 => (some (t358, false))))) else (some (([] : List (S29)), false)))
theorem impl_PairDrop.mono : ∀ a0 a1 k, LeO (impl_PairDrop.f k a0 a1) (impl_PairDrop.f (k + 1) a0 a1) := by
  intro a0 a1 k
  unfold impl_PairDrop.f
  repeat' first
      | (with_reducible exact impl_PairsValid.mono _ _)
      | (with_reducible exact impl_pairPlace.mono _ _ _)
      | (with_reducible exact LeO.refl _)
      | (with_reducible exact LeO.none _)
      | (with_reducible refine LeO.ite ?_ ?_)
      | (with_reducible refine LeO.bind ?_ (fun _ => ?_))
      | exact impl_PairsValid.mono _ _
      | exact impl_pairPlace.mono _ _ _
      | exact LeO.none _
      | refine LeO.ite ?_ ?_
      | refine LeO.bind ?_ (fun _ => ?_)
set_option maxHeartbeats 8000000 in
set_option maxRecDepth 100000 in
theorem impl_PairDrop.calls (k : Nat) (A0 : Option Addr) (c0 : Nat) (l0 : List (S29)) (a1 : ByteArray) (r1 : List (S29)) (r2 : Bool) (w : World) (hr0 : Kd.C k29 w A0 l0.length l0) (hc0 : l0.length ≤ c0) (h : impl_PairDrop.f k l0 a1 = some (r1, r2)) :
    Calls Try.prog 98 #[.slice A0 l0.length c0, .string a1] w fun e w' => ∃ v0_ : Value, e = .returned (.tuple #[v0_, .bool r2]) ∧ Kd.R k29 29 w' w.heap.size (fun _ => True) v0_ r1 ∧ Below w.heap.size w w' := by
  have HR0 := Aside0.mk hr0
  have HC0 := Aside0.mk hc0
  clear hr0 hc0
  have HB := Aside0.mk (Below.refl w.heap.size w)
  have H : ((impl_PairsValid.f k l0).bind fun t352 => (if t352 = true then ((impl_pairPlace.f k l0 a1).bind fun bt353 => (if bt353.2 = true then ((impl_Pair_137.f l0 bt353.1 1 ([] : List (S29))).bind fun t355 => (some (t355, true))) else ((impl_Pair_96.f l0).bind fun t358 => (some (t358, false))))) else (some (([] : List (S29)), false)))) = some (r1, r2) := h
  clear h
  replace H := Option.bind_eq_some_iff.mp H
  obtain ⟨t352, A30, H⟩ := H
  replace H : (if t352 = true then ((impl_pairPlace.f k l0 a1).bind fun bt353 => (if bt353.2 = true then ((impl_Pair_137.f l0 bt353.1 1 ([] : List (S29))).bind fun t355 => (some (t355, true))) else ((impl_Pair_96.f l0).bind fun t358 => (some (t358, false))))) else (some (([] : List (S29)), false))) = some (r1, r2) := H
  have A3 := Aside0.mk A30
  clear A30
  by_cases c4 : t352 = true
  · subst c4
    have H1 : ((impl_pairPlace.f k l0 a1).bind fun bt353 => (if bt353.2 = true then ((impl_Pair_137.f l0 bt353.1 1 ([] : List (S29))).bind fun t355 => (some (t355, true))) else ((impl_Pair_96.f l0).bind fun t358 => (some (t358, false))))) = some (r1, r2) := by rw [if_pos rfl] at H; exact H
    clear H
    have H := H1
    clear H1
    replace H := Option.bind_eq_some_iff.mp H
    obtain ⟨⟨t353, t354⟩, A50, H⟩ := H
    replace H : (if t354 = true then ((impl_Pair_137.f l0 t353 1 ([] : List (S29))).bind fun t355 => (some (t355, true))) else ((impl_Pair_96.f l0).bind fun t358 => (some (t358, false)))) = some (r1, r2) := H
    have A5 := Aside0.mk A50
    clear A50
    by_cases c6 : t354 = true
    · subst c6
      have H1 : ((impl_Pair_137.f l0 t353 1 ([] : List (S29))).bind fun t355 => (some (t355, true))) = some (r1, r2) := by rw [if_pos rfl] at H; exact H
      clear H
      have H := H1
      clear H1
      replace H := Option.bind_eq_some_iff.mp H
      obtain ⟨t355, A70, H⟩ := H
      replace H : (some (t355, true)) = some (r1, r2) := H
      have A7 := Aside0.mk A70
      clear A70
      simp only [Option.some.injEq, Prod.mk.injEq] at H
      obtain ⟨rfl, rfl⟩ := H
      go_enter Try.func98, Try.ntmps98
      go_wp2_with (first | ((with_reducible refine gate_callee (f := 17) rfl ?_); refine gsl (some 9) rfl Try.func17 #[.slice A0 l0.length c0] rfl ?_; (with_reducible refine (impl_PairsValid.calls k _ _ l0 true _ ?side1 ?side2 A3.out).mono ?_); (case side1 => exact cc HR0.out); (case side2 => exact HC0.out); rintro e w8 ⟨rfl, hb⟩; refine ⟨_, rfl, ?_⟩; replace HB := an0 HB hb; (try clear hb); (try clear hb2); (try clear hk); (try clear hi)) | ((with_reducible refine gate_callee (f := 115) rfl ?_); refine gsl (some 14) rfl Try.func115 #[.slice A0 l0.length c0, .string a1] rfl ?_; (with_reducible refine (impl_pairPlace.calls k _ _ l0 a1 t353 true _ ?side1 ?side2 A5.out).mono ?_); (case side1 => exact cc (Kd.C_below HR0.out HB.out)); (case side2 => exact HC0.out); rintro e w9 ⟨rfl, hb⟩; refine ⟨_, rfl, ?_⟩; replace HB := an0 HB hb; (try clear hb); (try clear hb2); (try clear hk); (try clear hi)) | ((with_reducible refine gate_callee (f := 137) rfl ?_); refine gsl (some 23) rfl Try.func137 #[.slice A0 l0.length c0, .int .i64 t353, .int .i64 1, .slice none 0 0] rfl ?_; (refine (impl_Pair_137.calls _ _ l0 t353 1 _ _ ([] : List (S29)) t355 _ ?side1 ?side2 ?side3 ?side4 A7.out).mono ?_); (case side1 => exact cc (Kd.C_below HR0.out HB.out)); (case side2 => exact HC0.out); (case side3 => exact Kd.C_nil _ _); (case side4 => exact Nat.le_refl _); rintro e w10 ⟨v356, rfl, ho0, hb⟩; refine ⟨_, rfl, ?_⟩; have n0_ := Aside0.mk (Kd.R_lower ho0 (below_size (bp HB.out))); have n1_ := an0 HB hb; clear HB; have HO357 := n0_; have HB := n1_; clear n0_ n1_; (try clear hb); (try clear hb2); (try clear hk); (try clear hi); (try clear ho0)))
      go_ret2
      exact ⟨_, fe, by (with_reducible repeat (first | apply Kd.R_alloc | apply Kd.R_drewN | apply Kd.R_drew)); exact HO357.out, bp HB.out⟩
    · replace c6 := Bool.eq_false_iff.mpr c6
      subst c6
      have H1 : ((impl_Pair_96.f l0).bind fun t358 => (some (t358, false))) = some (r1, r2) := by rw [if_neg (show ¬ (false = true) by decide)] at H; exact H
      clear H
      have H := H1
      clear H1
      replace H := Option.bind_eq_some_iff.mp H
      obtain ⟨t358, A110, H⟩ := H
      replace H : (some (t358, false)) = some (r1, r2) := H
      have A11 := Aside0.mk A110
      clear A110
      simp only [Option.some.injEq, Prod.mk.injEq] at H
      obtain ⟨rfl, rfl⟩ := H
      go_enter Try.func98, Try.ntmps98
      go_wp2_with (first | ((with_reducible refine gate_callee (f := 17) rfl ?_); refine gsl (some 9) rfl Try.func17 #[.slice A0 l0.length c0] rfl ?_; (with_reducible refine (impl_PairsValid.calls k _ _ l0 true _ ?side1 ?side2 A3.out).mono ?_); (case side1 => exact cc HR0.out); (case side2 => exact HC0.out); rintro e w12 ⟨rfl, hb⟩; refine ⟨_, rfl, ?_⟩; replace HB := an0 HB hb; (try clear hb); (try clear hb2); (try clear hk); (try clear hi)) | ((with_reducible refine gate_callee (f := 115) rfl ?_); refine gsl (some 14) rfl Try.func115 #[.slice A0 l0.length c0, .string a1] rfl ?_; (with_reducible refine (impl_pairPlace.calls k _ _ l0 a1 t353 false _ ?side1 ?side2 A5.out).mono ?_); (case side1 => exact cc (Kd.C_below HR0.out HB.out)); (case side2 => exact HC0.out); rintro e w13 ⟨rfl, hb⟩; refine ⟨_, rfl, ?_⟩; replace HB := an0 HB hb; (try clear hb); (try clear hb2); (try clear hk); (try clear hi)) | ((with_reducible refine gate_callee (f := 96) rfl ?_); refine gsl (some 20) rfl Try.func96 #[.slice A0 l0.length c0] rfl ?_; (with_reducible refine (impl_Pair_96.calls _ _ l0 t358 _ ?side1 ?side2 A11.out).mono ?_); (case side1 => exact cc (Kd.C_below HR0.out HB.out)); (case side2 => exact HC0.out); rintro e w14 ⟨v359, rfl, ho0, hb⟩; refine ⟨_, rfl, ?_⟩; have n0_ := Aside0.mk (Kd.R_lower ho0 (below_size (bp HB.out))); have n1_ := an0 HB hb; clear HB; have HO360 := n0_; have HB := n1_; clear n0_ n1_; (try clear hb); (try clear hb2); (try clear hk); (try clear hi); (try clear ho0)))
      go_ret2
      exact ⟨_, fe, by (with_reducible repeat (first | apply Kd.R_alloc | apply Kd.R_drewN | apply Kd.R_drew)); exact HO360.out, bp HB.out⟩
  · replace c4 := Bool.eq_false_iff.mpr c4
    subst c4
    have H1 : (some (([] : List (S29)), false)) = some (r1, r2) := by rw [if_neg (show ¬ (false = true) by decide)] at H; exact H
    clear H
    have H := H1
    clear H1
    simp only [Option.some.injEq, Prod.mk.injEq] at H
    obtain ⟨rfl, rfl⟩ := H
    go_enter Try.func98, Try.ntmps98
    go_wp2_with (first | ((with_reducible refine gate_callee (f := 17) rfl ?_); refine gsl (some 9) rfl Try.func17 #[.slice A0 l0.length c0] rfl ?_; (with_reducible refine (impl_PairsValid.calls k _ _ l0 false _ ?side1 ?side2 A3.out).mono ?_); (case side1 => exact cc HR0.out); (case side2 => exact HC0.out); rintro e w15 ⟨rfl, hb⟩; refine ⟨_, rfl, ?_⟩; replace HB := an0 HB hb; (try clear hb); (try clear hb2); (try clear hk); (try clear hi)))
    go_ret2
    exact ⟨_, fe, by first | exact Kd.R_nil _ _ _ _ _ | exact Kd.N_nil _ _ _ _ _ | exact Kd.V_nil _ _ _ _ _ | exact Kd.Q_nil _ _ _ _ _ | exact Kd.S_nil _ _ _ _ _, bp HB.out⟩

/-! ### impl_PairPut: function 99 -/
def impl_PairPut.j0 : Nat → List (S29) → ByteArray → Int → Bool → Option ((List (S29)) × Bool)
  | 0, _, _, _, _ => none
  | k + 1, x0, x1, x2, x22 => if x22 = true then (some (([] : List (S29)), false)) else ((impl_pairPlace.f k x0 x1).bind fun bt364 => (if bt364.2 = true then ((impl_Pair_137.f x0 bt364.1 1 (([(⟨x1, x2⟩ : S29)] : List (S29)))).bind fun t369 => (some (t369, true))) else (if (x0.length : Int) ≥ 48 then ((impl_Pair_96.f x0).bind fun t372 => (some (t372, false))) else ((impl_Pair_137.f x0 bt364.1 0 (([(⟨x1, x2⟩ : S29)] : List (S29)))).bind fun t378 => (some (t378, true))))))
def impl_PairPut.f (k : Nat) (l0 : List (S29)) (a1 : ByteArray) (a2 : Int) : Option ((List (S29)) × Bool) := (impl_PairsValid.f k l0).bind fun t361 => (if t361 = true then ((impl_KeyValid.f k a1).bind fun t362 => (if t362 = true then ((impl_valueValid.f a2).bind fun t363 => (impl_PairPut.j0 k l0 a1 a2 (!t363))) else (impl_PairPut.j0 k l0 a1 a2 true))) else (impl_PairPut.j0 k l0 a1 a2 true))
theorem impl_PairPut.mono_l : ∀ k, (∀ y0 y1 y2 y3, LeO (impl_PairPut.j0 k y0 y1 y2 y3) (impl_PairPut.j0 (k + 1) y0 y1 y2 y3))
  | 0 => fun _ _ _ _ r h => by simp [impl_PairPut.j0] at h
  | k + 1 => by
    have ih0 := impl_PairPut.mono_l k
    · intro y0 y1 y2 y3
      unfold impl_PairPut.j0
      repeat' first
      | (with_reducible exact ih0 _ _ _ _)
      | (with_reducible exact impl_KeyValid.mono _ _)
      | (with_reducible exact impl_PairsValid.mono _ _)
      | (with_reducible exact impl_pairPlace.mono _ _ _)
      | (with_reducible exact LeO.refl _)
      | (with_reducible exact LeO.none _)
      | (with_reducible refine LeO.ite ?_ ?_)
      | (with_reducible refine LeO.bind ?_ (fun _ => ?_))
      | exact ih0 _ _ _ _
      | exact impl_KeyValid.mono _ _
      | exact impl_PairsValid.mono _ _
      | exact impl_pairPlace.mono _ _ _
      | exact LeO.none _
      | refine LeO.ite ?_ ?_
      | refine LeO.bind ?_ (fun _ => ?_)
theorem impl_PairPut.mono : ∀ a0 a1 a2 k, LeO (impl_PairPut.f k a0 a1 a2) (impl_PairPut.f (k + 1) a0 a1 a2) := by
  intro a0 a1 a2 k
  have ih0 := impl_PairPut.mono_l k
  unfold impl_PairPut.f
  repeat' first
      | (with_reducible exact ih0 _ _ _ _)
      | (with_reducible exact impl_KeyValid.mono _ _)
      | (with_reducible exact impl_PairsValid.mono _ _)
      | (with_reducible exact impl_pairPlace.mono _ _ _)
      | (with_reducible exact LeO.refl _)
      | (with_reducible exact LeO.none _)
      | (with_reducible refine LeO.ite ?_ ?_)
      | (with_reducible refine LeO.bind ?_ (fun _ => ?_))
      | exact ih0 _ _ _ _
      | exact impl_KeyValid.mono _ _
      | exact impl_PairsValid.mono _ _
      | exact impl_pairPlace.mono _ _ _
      | exact LeO.none _
      | refine LeO.ite ?_ ?_
      | refine LeO.bind ?_ (fun _ => ?_)
theorem impl_PairPut.s0 {P0 Q : Prop} (B0 : P0) (h : P0 → Q := by (intro b0_; repeat (first | exact (Kd.R_reads' b0_).2.2 | (with_reducible refine Kd.C_alloc ?_ _) | (with_reducible refine Kd.C_drewN ?_ _) | (with_reducible refine Kd.C_drew ?_)))) : Q := h B0
set_option maxHeartbeats 8000000 in
set_option maxRecDepth 100000 in
theorem impl_PairPut.calls (k : Nat) (A0 : Option Addr) (c0 : Nat) (l0 : List (S29)) (a1 : ByteArray) (a2 : Int) (r1 : List (S29)) (r2 : Bool) (w : World) (hr0 : Kd.C k29 w A0 l0.length l0) (hc0 : l0.length ≤ c0) (h : impl_PairPut.f k l0 a1 a2 = some (r1, r2)) :
    Calls Try.prog 99 #[.slice A0 l0.length c0, .string a1, .int .i64 a2] w fun e w' => ∃ v0_ : Value, e = .returned (.tuple #[v0_, .bool r2]) ∧ Kd.R k29 29 w' w.heap.size (fun _ => True) v0_ r1 ∧ Below w.heap.size w w' := by
  have hu29 := Try.underlying29
  have HR0 := Aside0.mk hr0
  have HC0 := Aside0.mk hc0
  clear hr0 hc0
  have HB := Aside0.mk (Below.refl w.heap.size w)
  have H : ((impl_PairsValid.f k l0).bind fun t361 => (if t361 = true then ((impl_KeyValid.f k a1).bind fun t362 => (if t362 = true then ((impl_valueValid.f a2).bind fun t363 => (impl_PairPut.j0 k l0 a1 a2 (!t363))) else (impl_PairPut.j0 k l0 a1 a2 true))) else (impl_PairPut.j0 k l0 a1 a2 true))) = some (r1, r2) := h
  clear h
  have HC4 := Aside0.mk H
  clear H
  go_enter Try.func99, Try.ntmps99
  go_upto_region 1 with (fail)
  go_cut [22] (fun v22 wc => ∃ (kq : Nat) (x22_3 : Bool), v22 = .bool x22_3 ∧ Aside0 (impl_PairPut.j0 kq l0 a1 a2 x22_3 = some (r1, r2)) ∧ Aside0 (kq ≤ k) ∧ Aside0 (Below w.heap.size w wc))
  case first =>
    have H := HC4.out
    clear HC4
    replace H := Option.bind_eq_some_iff.mp H
    obtain ⟨t361, A50, H⟩ := H
    replace H : (if t361 = true then ((impl_KeyValid.f k a1).bind fun t362 => (if t362 = true then ((impl_valueValid.f a2).bind fun t363 => (impl_PairPut.j0 k l0 a1 a2 (!t363))) else (impl_PairPut.j0 k l0 a1 a2 true))) else (impl_PairPut.j0 k l0 a1 a2 true)) = some (r1, r2) := H
    have A5 := Aside0.mk A50
    clear A50
    by_cases c6 : t361 = true
    · subst c6
      have H1 : ((impl_KeyValid.f k a1).bind fun t362 => (if t362 = true then ((impl_valueValid.f a2).bind fun t363 => (impl_PairPut.j0 k l0 a1 a2 (!t363))) else (impl_PairPut.j0 k l0 a1 a2 true))) = some (r1, r2) := by rw [if_pos rfl] at H; exact H
      clear H
      have H := H1
      clear H1
      replace H := Option.bind_eq_some_iff.mp H
      obtain ⟨t362, A70, H⟩ := H
      replace H : (if t362 = true then ((impl_valueValid.f a2).bind fun t363 => (impl_PairPut.j0 k l0 a1 a2 (!t363))) else (impl_PairPut.j0 k l0 a1 a2 true)) = some (r1, r2) := H
      have A7 := Aside0.mk A70
      clear A70
      by_cases c8 : t362 = true
      · subst c8
        have H1 : ((impl_valueValid.f a2).bind fun t363 => (impl_PairPut.j0 k l0 a1 a2 (!t363))) = some (r1, r2) := by rw [if_pos rfl] at H; exact H
        clear H
        have H := H1
        clear H1
        replace H := Option.bind_eq_some_iff.mp H
        obtain ⟨t363, A90, H⟩ := H
        replace H : (impl_PairPut.j0 k l0 a1 a2 (!t363)) = some (r1, r2) := H
        have A9 := Aside0.mk A90
        clear A90
        have H' := Aside0.mk H
        clear H
        go_wp2_with (first | ((with_reducible refine gate_callee (f := 17) rfl ?_); refine gsl (some 11) rfl Try.func17 #[.slice A0 l0.length c0] rfl ?_; (with_reducible refine (impl_PairsValid.calls k _ _ l0 true _ ?side1 ?side2 A5.out).mono ?_); (case side1 => exact cc (Kd.C_below HR0.out HB.out)); (case side2 => exact HC0.out); rintro e w10 ⟨rfl, hb⟩; refine ⟨_, rfl, ?_⟩; replace HB := an0 HB hb; (try clear hb); (try clear hb2); (try clear hk); (try clear hi)) | (go_at_call 74; (with_reducible refine (impl_KeyValid.calls k a1 true _ A7.out).mono ?_); rintro e w' ⟨rfl, ⟨nd, rfl⟩⟩) | (go_at_call 75; (with_reducible refine (impl_valueValid.calls a2 t363 _ A9.out).mono ?_); rintro e w' ⟨rfl, ⟨nd, rfl⟩⟩))
        go_meet
        case rel => exact ⟨_, (!t363), (by first | rfl | (simp; done) | (simp [*]; done) | (simp [bne_nil_, beq_nil_]; done)), H', ⟨by first | omega | exact Nat.le_refl _⟩, ⟨bp HB.out⟩⟩
      · replace c8 := Bool.eq_false_iff.mpr c8
        subst c8
        have H1 : (impl_PairPut.j0 k l0 a1 a2 true) = some (r1, r2) := by rw [if_neg (show ¬ (false = true) by decide)] at H; exact H
        clear H
        have H := H1
        clear H1
        have H' := Aside0.mk H
        clear H
        go_wp2_with (first | ((with_reducible refine gate_callee (f := 17) rfl ?_); refine gsl (some 11) rfl Try.func17 #[.slice A0 l0.length c0] rfl ?_; (with_reducible refine (impl_PairsValid.calls k _ _ l0 true _ ?side1 ?side2 A5.out).mono ?_); (case side1 => exact cc (Kd.C_below HR0.out HB.out)); (case side2 => exact HC0.out); rintro e w11 ⟨rfl, hb⟩; refine ⟨_, rfl, ?_⟩; replace HB := an0 HB hb; (try clear hb); (try clear hb2); (try clear hk); (try clear hi)) | (go_at_call 74; (with_reducible refine (impl_KeyValid.calls k a1 false _ A7.out).mono ?_); rintro e w' ⟨rfl, ⟨nd, rfl⟩⟩))
        go_meet
        case rel => exact ⟨_, (true), (by first | rfl | (simp; done) | (simp [*]; done) | (simp [bne_nil_, beq_nil_]; done)), H', ⟨by first | omega | exact Nat.le_refl _⟩, ⟨bp HB.out⟩⟩
    · replace c6 := Bool.eq_false_iff.mpr c6
      subst c6
      have H1 : (impl_PairPut.j0 k l0 a1 a2 true) = some (r1, r2) := by rw [if_neg (show ¬ (false = true) by decide)] at H; exact H
      clear H
      have H := H1
      clear H1
      have H' := Aside0.mk H
      clear H
      go_wp2_with (first | ((with_reducible refine gate_callee (f := 17) rfl ?_); refine gsl (some 11) rfl Try.func17 #[.slice A0 l0.length c0] rfl ?_; (with_reducible refine (impl_PairsValid.calls k _ _ l0 false _ ?side1 ?side2 A5.out).mono ?_); (case side1 => exact cc (Kd.C_below HR0.out HB.out)); (case side2 => exact HC0.out); rintro e w12 ⟨rfl, hb⟩; refine ⟨_, rfl, ?_⟩; replace HB := an0 HB hb; (try clear hb); (try clear hb2); (try clear hk); (try clear hi)))
      go_meet
      case rel => exact ⟨_, (true), (by first | rfl | (simp; done) | (simp [*]; done) | (simp [bne_nil_, beq_nil_]; done)), H', ⟨by first | omega | exact Nat.le_refl _⟩, ⟨bp HB.out⟩⟩
  case rest =>
    clear HC4
    try clear c1
    try clear p2
    try clear c6
    try clear c8
    try clear c9
    obtain ⟨kq, x22_3, rfl, HA, HJ3, HB⟩ := hcut
    cases kq with
    | zero => exact absurd HA.out (by simp [impl_PairPut.j0])
    | succ kj3 =>
      have H := HA.out
      clear HA
      simp only [impl_PairPut.j0] at H
      by_cases c13 : x22_3 = true
      · subst c13
        have H1 : (some (([] : List (S29)), false)) = some (r1, r2) := by rw [if_pos rfl] at H; exact H
        clear H
        have H := H1
        clear H1
        simp only [Option.some.injEq, Prod.mk.injEq] at H
        obtain ⟨rfl, rfl⟩ := H
        go_wp2
        go_ret2
        exact ⟨_, fe, by first | exact Kd.R_nil _ _ _ _ _ | exact Kd.N_nil _ _ _ _ _ | exact Kd.V_nil _ _ _ _ _ | exact Kd.Q_nil _ _ _ _ _ | exact Kd.S_nil _ _ _ _ _, bp HB.out⟩
      · replace c13 := Bool.eq_false_iff.mpr c13
        subst c13
        have H1 : ((impl_pairPlace.f kj3 l0 a1).bind fun bt364 => (if bt364.2 = true then ((impl_Pair_137.f l0 bt364.1 1 (([(⟨a1, a2⟩ : S29)] : List (S29)))).bind fun t369 => (some (t369, true))) else (if (l0.length : Int) ≥ 48 then ((impl_Pair_96.f l0).bind fun t372 => (some (t372, false))) else ((impl_Pair_137.f l0 bt364.1 0 (([(⟨a1, a2⟩ : S29)] : List (S29)))).bind fun t378 => (some (t378, true)))))) = some (r1, r2) := by rw [if_neg (show ¬ (false = true) by decide)] at H; exact H
        clear H
        have H := H1
        clear H1
        replace H := Option.bind_eq_some_iff.mp H
        obtain ⟨⟨t364, t365⟩, A140, H⟩ := H
        replace H : (if t365 = true then ((impl_Pair_137.f l0 t364 1 (([(⟨a1, a2⟩ : S29)] : List (S29)))).bind fun t369 => (some (t369, true))) else (if (l0.length : Int) ≥ 48 then ((impl_Pair_96.f l0).bind fun t372 => (some (t372, false))) else ((impl_Pair_137.f l0 t364 0 (([(⟨a1, a2⟩ : S29)] : List (S29)))).bind fun t378 => (some (t378, true))))) = some (r1, r2) := H
        have A14 := Aside0.mk A140
        clear A140
        by_cases c15 : t365 = true
        · subst c15
          have H1 : ((impl_Pair_137.f l0 t364 1 (([(⟨a1, a2⟩ : S29)] : List (S29)))).bind fun t369 => (some (t369, true))) = some (r1, r2) := by rw [if_pos rfl] at H; exact H
          clear H
          have H := H1
          clear H1
          obtain ⟨y366, hy366⟩ : ∃ y_ : List (S29), y_ = (([(⟨a1, a2⟩ : S29)] : List (S29))) := ⟨_, rfl⟩
          replace H : ((impl_Pair_137.f l0 t364 1 y366).bind fun t369 => (some (t369, true))) = some (r1, r2) := by first | (rw [hy366]; with_reducible exact H) | (have H2_ := (Option.bind_some _ _).symm.trans H; rw [hy366]; with_reducible exact H2_) | (have H2_ := (Option.bind_some _ _).symm.trans H; with_reducible exact H2_) | with_reducible exact H | (rw [hy366]; exact H) | exact H
          have Ny366 := Aside0.mk hy366
          clear hy366
          replace H := Option.bind_eq_some_iff.mp H
          obtain ⟨t369, A160, H⟩ := H
          replace H : (some (t369, true)) = some (r1, r2) := H
          have A16 := Aside0.mk A160
          clear A160
          simp only [Option.some.injEq, Prod.mk.injEq] at H
          obtain ⟨rfl, rfl⟩ := H
          go_wp2_with (first | ((with_reducible refine gate_callee (f := 115) rfl ?_); refine gsl (some 26) rfl Try.func115 #[.slice A0 l0.length c0, .string a1] rfl ?_; (with_reducible refine (impl_pairPlace.calls kj3 _ _ l0 a1 t364 true _ ?side1 ?side2 A14.out).mono ?_); (case side1 => exact cc (Kd.C_below HR0.out HB.out)); (case side2 => exact HC0.out); rintro e w17 ⟨rfl, hb⟩; refine ⟨_, rfl, ?_⟩; replace HB := an0 HB hb; (try clear hb); (try clear hb2); (try clear hk); (try clear hi)) | ((with_reducible refine gate_dst (N := 35) rfl ?_); refine Kd.R_lit k29 _ 29 ?hg (N := 35) ?hd (xs := ([(⟨a1, a2⟩ : S29)] : List (S29))) (inner := [.string a1, .int .i64 a2]) (ok := fun _ => True) (okp := fun _ => True) ?hr ?hp (fun _ hk => hk) trivial (Below.refl _ _) (Nat.le_refl _) (by simp) ?_; (case hd => rfl); (case hg => rfl); (case hr => first | (go_simp; done) | (go_simp; rfl)); (case hp => exact (Reps.c2 (show Kd.M k29 _ _ _ (⟨a1, a2⟩ : S29) [.string a1, .int .i64 a2] from (k29_mkM _ _ _ (⟨a1, a2⟩ : S29) )) (Reps.none _ _))); intro v367 w18 ho19 hb hg_ hnew_; clear hg_ hnew_; (first | rw [← Ny366.out] at ho19 | (simp only [Int.reduceToNat] at ho19; rw [← Ny366.out] at ho19)); have n0_ := Aside0.mk (Kd.R_lower ho19 (below_size (bp HB.out))); have n1_ := an0 HB hb; clear HB; have HO368 := n0_; have HB := n1_; clear n0_ n1_; clear hb ho19; obtain ⟨Ao20, co20, eo20⟩ := Kd.R_slice HO368.out; subst eo20) | ((with_reducible refine gate_callee (f := 137) rfl ?_); refine gsl (some 36) rfl Try.func137 #[.slice A0 l0.length c0, .int .i64 t364, .int .i64 1, .slice Ao20 y366.length co20] rfl ?_; (with_reducible refine (impl_Pair_137.calls _ _ l0 t364 1 _ _ y366 t369 _ ?side1 ?side2 ?side3 ?side4 A16.out).mono ?_); (case side1 => exact cc (Kd.C_below HR0.out HB.out)); (case side2 => exact HC0.out); (case side3 => exact impl_PairPut.s0 HO368.out); (case side4 => exact (Kd.R_reads' HO368.out).2.1); rintro e w21 ⟨v370, rfl, ho0, hb⟩; refine ⟨_, rfl, ?_⟩; have n0_ := Aside0.mk (Kd.R_elder' (kr HO368.out) (Kd.R_base ho0) hb); have n1_ := Aside0.mk (Kd.R_lower (Kd.R_new' ho0 (Kd.R_lt (kr HO368.out))) (below_size (bp HB.out))); have n2_ := an0 HB hb; clear HO368; clear HB; have HO368 := n0_; have HO371 := n1_; have HB := n2_; clear n0_ n1_ n2_; (try clear hb); (try clear hb2); (try clear hk); (try clear hi); (try clear ho0)))
          go_ret2
          exact ⟨_, fe, by (with_reducible repeat (first | apply Kd.R_alloc | apply Kd.R_drewN | apply Kd.R_drew)); exact Kd.R_mono HO371.out (fun _ hk => trivial), bp HB.out⟩
        · replace c15 := Bool.eq_false_iff.mpr c15
          subst c15
          have H1 : (if (l0.length : Int) ≥ 48 then ((impl_Pair_96.f l0).bind fun t372 => (some (t372, false))) else ((impl_Pair_137.f l0 t364 0 (([(⟨a1, a2⟩ : S29)] : List (S29)))).bind fun t378 => (some (t378, true)))) = some (r1, r2) := by rw [if_neg (show ¬ (false = true) by decide)] at H; exact H
          clear H
          have H := H1
          clear H1
          by_cases c22 : (l0.length : Int) ≥ 48
          · rw [if_pos c22] at H
            have c22b0 : decide (48 ≤ (l0.length : Int)) = true := decide_eq_true c22
            have c22b1 : decide (48 ≤ l0.length) = true := decide_eq_true (by omega)
            clear c22
            replace H := Option.bind_eq_some_iff.mp H
            obtain ⟨t372, A230, H⟩ := H
            replace H : (some (t372, false)) = some (r1, r2) := H
            have A23 := Aside0.mk A230
            clear A230
            simp only [Option.some.injEq, Prod.mk.injEq] at H
            obtain ⟨rfl, rfl⟩ := H
            go_wp2_with (first | ((with_reducible refine gate_callee (f := 115) rfl ?_); refine gsl (some 26) rfl Try.func115 #[.slice A0 l0.length c0, .string a1] rfl ?_; (with_reducible refine (impl_pairPlace.calls kj3 _ _ l0 a1 t364 false _ ?side1 ?side2 A14.out).mono ?_); (case side1 => exact cc (Kd.C_below HR0.out HB.out)); (case side2 => exact HC0.out); rintro e w24 ⟨rfl, hb⟩; refine ⟨_, rfl, ?_⟩; replace HB := an0 HB hb; (try clear hb); (try clear hb2); (try clear hk); (try clear hi)) | ((with_reducible refine gate_callee (f := 96) rfl ?_); refine gsl (some 41) rfl Try.func96 #[.slice A0 l0.length c0] rfl ?_; (with_reducible refine (impl_Pair_96.calls _ _ l0 t372 _ ?side1 ?side2 A23.out).mono ?_); (case side1 => exact cc (Kd.C_below HR0.out HB.out)); (case side2 => exact HC0.out); rintro e w25 ⟨v373, rfl, ho0, hb⟩; refine ⟨_, rfl, ?_⟩; have n0_ := Aside0.mk (Kd.R_lower ho0 (below_size (bp HB.out))); have n1_ := an0 HB hb; clear HB; have HO374 := n0_; have HB := n1_; clear n0_ n1_; (try clear hb); (try clear hb2); (try clear hk); (try clear hi); (try clear ho0)))
            go_ret2
            exact ⟨_, fe, by (with_reducible repeat (first | apply Kd.R_alloc | apply Kd.R_drewN | apply Kd.R_drew)); exact HO374.out, bp HB.out⟩
          · rw [if_neg c22] at H
            have c22b0 : decide (48 ≤ (l0.length : Int)) = false := decide_eq_false c22
            have c22b1 : decide (48 ≤ l0.length) = false := decide_eq_false (by omega)
            clear c22
            obtain ⟨y375, hy375⟩ : ∃ y_ : List (S29), y_ = (([(⟨a1, a2⟩ : S29)] : List (S29))) := ⟨_, rfl⟩
            replace H : ((impl_Pair_137.f l0 t364 0 y375).bind fun t378 => (some (t378, true))) = some (r1, r2) := by first | (rw [hy375]; with_reducible exact H) | (have H2_ := (Option.bind_some _ _).symm.trans H; rw [hy375]; with_reducible exact H2_) | (have H2_ := (Option.bind_some _ _).symm.trans H; with_reducible exact H2_) | with_reducible exact H | (rw [hy375]; exact H) | exact H
            have Ny375 := Aside0.mk hy375
            clear hy375
            replace H := Option.bind_eq_some_iff.mp H
            obtain ⟨t378, A260, H⟩ := H
            replace H : (some (t378, true)) = some (r1, r2) := H
            have A26 := Aside0.mk A260
            clear A260
            simp only [Option.some.injEq, Prod.mk.injEq] at H
            obtain ⟨rfl, rfl⟩ := H
            go_wp2_with (first | ((with_reducible refine gate_callee (f := 115) rfl ?_); refine gsl (some 26) rfl Try.func115 #[.slice A0 l0.length c0, .string a1] rfl ?_; (with_reducible refine (impl_pairPlace.calls kj3 _ _ l0 a1 t364 false _ ?side1 ?side2 A14.out).mono ?_); (case side1 => exact cc (Kd.C_below HR0.out HB.out)); (case side2 => exact HC0.out); rintro e w27 ⟨rfl, hb⟩; refine ⟨_, rfl, ?_⟩; replace HB := an0 HB hb; (try clear hb); (try clear hb2); (try clear hk); (try clear hi)) | ((with_reducible refine gate_dst (N := 47) rfl ?_); refine Kd.R_lit k29 _ 29 ?hg (N := 47) ?hd (xs := ([(⟨a1, a2⟩ : S29)] : List (S29))) (inner := [.string a1, .int .i64 a2]) (ok := fun _ => True) (okp := fun _ => True) ?hr ?hp (fun _ hk => hk) trivial (Below.refl _ _) (Nat.le_refl _) (by simp) ?_; (case hd => rfl); (case hg => rfl); (case hr => first | (go_simp; done) | (go_simp; rfl)); (case hp => exact (Reps.c2 (show Kd.M k29 _ _ _ (⟨a1, a2⟩ : S29) [.string a1, .int .i64 a2] from (k29_mkM _ _ _ (⟨a1, a2⟩ : S29) )) (Reps.none _ _))); intro v376 w28 ho29 hb hg_ hnew_; clear hg_ hnew_; (first | rw [← Ny375.out] at ho29 | (simp only [Int.reduceToNat] at ho29; rw [← Ny375.out] at ho29)); have n0_ := Aside0.mk (Kd.R_lower ho29 (below_size (bp HB.out))); have n1_ := an0 HB hb; clear HB; have HO377 := n0_; have HB := n1_; clear n0_ n1_; clear hb ho29; obtain ⟨Ao30, co30, eo30⟩ := Kd.R_slice HO377.out; subst eo30) | ((with_reducible refine gate_callee (f := 137) rfl ?_); refine gsl (some 48) rfl Try.func137 #[.slice A0 l0.length c0, .int .i64 t364, .int .i64 0, .slice Ao30 y375.length co30] rfl ?_; (with_reducible refine (impl_Pair_137.calls _ _ l0 t364 0 _ _ y375 t378 _ ?side1 ?side2 ?side3 ?side4 A26.out).mono ?_); (case side1 => exact cc (Kd.C_below HR0.out HB.out)); (case side2 => exact HC0.out); (case side3 => exact impl_PairPut.s0 HO377.out); (case side4 => exact (Kd.R_reads' HO377.out).2.1); rintro e w31 ⟨v379, rfl, ho0, hb⟩; refine ⟨_, rfl, ?_⟩; have n0_ := Aside0.mk (Kd.R_elder' (kr HO377.out) (Kd.R_base ho0) hb); have n1_ := Aside0.mk (Kd.R_lower (Kd.R_new' ho0 (Kd.R_lt (kr HO377.out))) (below_size (bp HB.out))); have n2_ := an0 HB hb; clear HO377; clear HB; have HO377 := n0_; have HO380 := n1_; have HB := n2_; clear n0_ n1_ n2_; (try clear hb); (try clear hb2); (try clear hk); (try clear hi); (try clear ho0)))
            go_ret2
            exact ⟨_, fe, by (with_reducible repeat (first | apply Kd.R_alloc | apply Kd.R_drewN | apply Kd.R_drew)); exact Kd.R_mono HO380.out (fun _ hk => trivial), bp HB.out⟩

/-! ### impl_mapAfter: function 156 -/
def impl_mapAfter.f (k : Nat) (l0 : List (S29)) (a1_0 : Int) (a1_1 : ByteArray) (a1_2 : Int) (a1_3 : Int) (a2 : Int) : Option ((List (S29)) × Bool) := (impl_PairGet.f k l0 a1_1).bind fun t382 => (if a2 = t382 then (if a1_0 = 3 then ((impl_PairDrop.f k l0 a1_1).bind fun bt383 => (some (bt383.1, true))) else (if a1_0 = 2 then ((impl_PairPut.f k l0 a1_1 a1_2).bind fun bt387 => (some (bt387.1, bt387.2))) else (if a1_0 = 4 then (if a1_3 = t382 then ((impl_PairPut.f k l0 a1_1 a1_2).bind fun bt391 => (some (bt391.1, bt391.2))) else (some (l0, true))) else (some (l0, true))))) else (some (([] : List (S29)), false)))
theorem impl_mapAfter.mono : ∀ a0 a1 a2 a3 a4 a5 k, LeO (impl_mapAfter.f k a0 a1 a2 a3 a4 a5) (impl_mapAfter.f (k + 1) a0 a1 a2 a3 a4 a5) := by
  intro a0 a1 a2 a3 a4 a5 k
  unfold impl_mapAfter.f
  repeat' first
      | (with_reducible exact impl_PairDrop.mono _ _ _)
      | (with_reducible exact impl_PairGet.mono _ _ _)
      | (with_reducible exact impl_PairPut.mono _ _ _ _)
      | (with_reducible exact LeO.refl _)
      | (with_reducible exact LeO.none _)
      | (with_reducible refine LeO.ite ?_ ?_)
      | (with_reducible refine LeO.bind ?_ (fun _ => ?_))
      | exact impl_PairDrop.mono _ _ _
      | exact impl_PairGet.mono _ _ _
      | exact impl_PairPut.mono _ _ _ _
      | exact LeO.none _
      | refine LeO.ite ?_ ?_
      | refine LeO.bind ?_ (fun _ => ?_)
theorem impl_mapAfter.s0 {P0 Q : Prop} (B0 : P0) (h : P0 → Q := by (intro b0_; repeat (first | (with_reducible first | exact b0_ | apply Kept.alloc | apply Kept.drewN | apply Kept.drew) | exact b0_))) : Q := h B0
theorem impl_mapAfter.s1 {P0 Q : Prop} (B0 : P0) (h : P0 → Q := by (intro b0_; repeat (first | exact (Kd.R_reads' b0_).2.2 | (with_reducible refine Kd.C_alloc ?_ _) | (with_reducible refine Kd.C_drewN ?_ _) | (with_reducible refine Kd.C_drew ?_)))) : Q := h B0
theorem impl_mapAfter.s2 {P0 P1 Q : Prop} (B0 : P0) (B1 : P1) (h : P0 → P1 → Q := by (intro b0_ b1_; repeat (first | (with_reducible first | exact b0_ | apply Kept.alloc | apply Kept.drewN | apply Kept.drew | refine Kept.setCell ?_ (.inr b1_) _) | exact b0_))) : Q := h B0 B1
set_option maxHeartbeats 8000000 in
set_option maxRecDepth 100000 in
theorem impl_mapAfter.calls (k : Nat) (P0_ : Nat → Prop) (u9000_ : Value) (l0 : List (S29)) (a1_0 : Int) (a1_1 : ByteArray) (a1_2 : Int) (a1_3 : Int) (a2 : Int) (r1 : List (S29)) (r2 : Bool) (w0 w : World) (hB : Below w0.heap.size w0 w) (ho0 : Kd.R k29 29 w w0.heap.size P0_ u9000_ l0) (h : impl_mapAfter.f k l0 a1_0 a1_1 a1_2 a1_3 a2 = some (r1, r2)) :
    Calls Try.prog 156 #[u9000_, .agg #[.int .i64 a1_0, .string a1_1, .int .i64 a1_2, .int .i64 a1_3], .int .i64 a2] w fun e w' => ∃ v0_ : Value, e = .returned (.tuple #[v0_, .bool r2]) ∧ Kd.R k29 29 w' w0.heap.size (fun k_ => (P0_ k_ ∨ w.heap.size ≤ k_)) v0_ r1 ∧ Below w0.heap.size w0 w' ∧ Kept w w' (fun k_ => P0_ k_) := by
  have hu40 := Try.underlying40
  have HO0 := Aside0.mk (show Kd.R k29 29 w w0.heap.size (fun k_ => (P0_ k_ ∨ w.heap.size ≤ k_)) u9000_ l0 from Kd.R_mono ho0 (fun k_ hk => (.inl hk)))
  have HK := Aside0.mk (Kept.refl w (fun k_ => P0_ k_))
  have HW0 := Aside0.mk hB.size
  have HB := Aside0.mk hB
  clear hB
  have H : ((impl_PairGet.f k l0 a1_1).bind fun t382 => (if a2 = t382 then (if a1_0 = 3 then ((impl_PairDrop.f k l0 a1_1).bind fun bt383 => (some (bt383.1, true))) else (if a1_0 = 2 then ((impl_PairPut.f k l0 a1_1 a1_2).bind fun bt387 => (some (bt387.1, bt387.2))) else (if a1_0 = 4 then (if a1_3 = t382 then ((impl_PairPut.f k l0 a1_1 a1_2).bind fun bt391 => (some (bt391.1, bt391.2))) else (some (l0, true))) else (some (l0, true))))) else (some (([] : List (S29)), false)))) = some (r1, r2) := h
  clear h
  replace H := Option.bind_eq_some_iff.mp H
  obtain ⟨t382, A40, H⟩ := H
  replace H : (if a2 = t382 then (if a1_0 = 3 then ((impl_PairDrop.f k l0 a1_1).bind fun bt383 => (some (bt383.1, true))) else (if a1_0 = 2 then ((impl_PairPut.f k l0 a1_1 a1_2).bind fun bt387 => (some (bt387.1, bt387.2))) else (if a1_0 = 4 then (if a1_3 = t382 then ((impl_PairPut.f k l0 a1_1 a1_2).bind fun bt391 => (some (bt391.1, bt391.2))) else (some (l0, true))) else (some (l0, true))))) else (some (([] : List (S29)), false))) = some (r1, r2) := H
  have A4 := Aside0.mk A40
  clear A40
  by_cases c5 : a2 = t382
  · rw [if_pos c5] at H
    have c5b0 : (a2 == t382) = true := beq_iff_eq.mpr c5
    have c5b1 : (a2 != t382) = false := bne_eq_false_iff_eq.mpr c5
    clear c5
    by_cases c6 : a1_0 = 3
    · rw [if_pos c6] at H
      have c6b0 : (a1_0 == 3) = true := beq_iff_eq.mpr c6
      have c6b1 : (a1_0 != 3) = false := bne_eq_false_iff_eq.mpr c6
      clear c6
      replace H := Option.bind_eq_some_iff.mp H
      obtain ⟨⟨t383, t384⟩, A70, H⟩ := H
      replace H : (some (t383, true)) = some (r1, r2) := H
      have A7 := Aside0.mk A70
      clear A70
      simp only [Option.some.injEq, Prod.mk.injEq] at H
      obtain ⟨rfl, rfl⟩ := H
      go_enter Try.func156, Try.ntmps156
      go_wp2_with (first | ((with_reducible refine gate_dst (N := 4) rfl ?_); refine bxe (N := 4) (cs := #[.int .i64 a1_0, .string a1_1, .int .i64 a1_2, .int .i64 a1_3]) (t := 40) ?_; intro gb381 hg w8 hbox hb; have n0_ := Aside0.mk (Kd.R_below (kr HO0.out) hb); have n1_ := Aside0.mk (Kept.below (S := (fun k_ => P0_ k_)) (impl_mapAfter.s0 HK.out) hb); have n2_ := an0 HB hb; have n3_ := Aside0.mk (hbox); have n4_ := Aside0.mk ((by rw [hg]; exact (by first | exact HK.out.1 | exact (show Kept w _ (fun k_ => P0_ k_) from impl_mapAfter.s0 HK.out).1) : w.heap.size ≤ gb381)); have n5_ := Aside0.mk ((by rw [hg]; exact (below_size (bp HB.out)) : w0.heap.size ≤ gb381)); clear HO0; clear HK; clear HB; have HO0 := n0_; have HK := n1_; have HB := n2_; have BK381 := n3_; have GW381 := n4_; have GE381 := n5_; clear n0_ n1_ n2_ n3_ n4_ n5_; clear hb hbox hg; obtain ⟨hcz9_0, hcz9_1, hcz9_2, hcz9_3, hfz9_0, hfz9_1, hfz9_2, hfz9_3⟩ := cl4 BK381; obtain ⟨Ao10, co10, eo10⟩ := Kd.R_slice HO0.out; subst eo10) | ((with_reducible refine gate_callee (f := 97) rfl ?_); refine gsl (some 14) rfl Try.func97 #[.slice Ao10 l0.length co10, .string a1_1] rfl ?_; (with_reducible refine (impl_PairGet.calls k _ _ l0 a1_1 t382 _ ?side1 ?side2 A4.out).mono ?_); (case side1 => exact impl_mapAfter.s1 HO0.out); (case side2 => exact (Kd.R_reads' HO0.out).2.1); rintro e w11 ⟨rfl, hb⟩; refine ⟨_, rfl, ?_⟩; have n0_ := Aside0.mk (Kd.R_below (kr HO0.out) hb); have n1_ := an1 BK381 hb; have n2_ := Aside0.mk (Kept.below (S := (fun k_ => P0_ k_)) (impl_mapAfter.s2 HK.out GW381.out) hb); have n3_ := an0 HB hb; clear HO0; clear BK381; clear HK; clear HB; have HO0 := n0_; have BK381 := n1_; have HK := n2_; have HB := n3_; clear n0_ n1_ n2_ n3_; (try clear hb); (try clear hb2); (try clear hk); (try clear hi); obtain ⟨hcz12_0, hcz12_1, hcz12_2, hcz12_3, hfz12_0, hfz12_1, hfz12_2, hfz12_3⟩ := cl4 BK381) | ((with_reducible refine gate_callee (f := 98) rfl ?_); refine gsl (some 26) rfl Try.func98 #[.slice Ao10 l0.length co10, .string a1_1] rfl ?_; (with_reducible refine (impl_PairDrop.calls k _ _ l0 a1_1 t383 t384 _ ?side1 ?side2 A7.out).mono ?_); (case side1 => exact impl_mapAfter.s1 HO0.out); (case side2 => exact (Kd.R_reads' HO0.out).2.1); rintro e w13 ⟨v385, rfl, ho0, hb⟩; refine ⟨_, rfl, ?_⟩; have n0_ := Aside0.mk (Kd.R_elder' (kr HO0.out) (Kd.R_base ho0) hb); have n1_ := Aside0.mk (Kd.R_lower (Kd.R_new' (Kd.R_newM (M := fun k_ => (P0_ k_ ∨ w.heap.size ≤ k_)) ho0 (by first | exact HK.out.1 | exact (show Kept w _ (fun k_ => P0_ k_) from impl_mapAfter.s2 HK.out GW381.out).1) (fun k_ h_ => .inr h_)) (Kd.R_lt (kr HO0.out))) (below_size (bp HB.out))); have n2_ := an1 BK381 hb; have n3_ := Aside0.mk (Kept.below (S := (fun k_ => P0_ k_)) (impl_mapAfter.s2 HK.out GW381.out) hb); have n4_ := an0 HB hb; clear HO0; clear BK381; clear HK; clear HB; have HO0 := n0_; have HO386 := n1_; have BK381 := n2_; have HK := n3_; have HB := n4_; clear n0_ n1_ n2_ n3_ n4_; (try clear hb); (try clear hb2); (try clear hk); (try clear hi); (try clear ho0)))
      go_ret2
      exact ⟨_, fe, by (with_reducible repeat (first | apply Kd.R_alloc | apply Kd.R_drewN | apply Kd.R_drew)); exact Kd.R_mono HO386.out (fun _ hk => hk.1.1), bp HB.out, impl_mapAfter.s2 HK.out GW381.out⟩
    · rw [if_neg c6] at H
      have c6b0 : (a1_0 == 3) = false := beq_eq_false_iff_ne.mpr c6
      have c6b1 : (a1_0 != 3) = true := bne_iff_ne.mpr c6
      by_cases c14 : a1_0 = 2
      · rw [if_pos c14] at H
        have c14b0 : (a1_0 == 2) = true := beq_iff_eq.mpr c14
        have c14b1 : (a1_0 != 2) = false := bne_eq_false_iff_eq.mpr c14
        clear c14
        replace H := Option.bind_eq_some_iff.mp H
        obtain ⟨⟨t387, t388⟩, A150, H⟩ := H
        replace H : (some (t387, t388)) = some (r1, r2) := H
        have A15 := Aside0.mk A150
        clear A150
        simp only [Option.some.injEq, Prod.mk.injEq] at H
        obtain ⟨rfl, rfl⟩ := H
        go_enter Try.func156, Try.ntmps156
        go_wp2_with (first | ((with_reducible refine gate_dst (N := 4) rfl ?_); refine bxe (N := 4) (cs := #[.int .i64 a1_0, .string a1_1, .int .i64 a1_2, .int .i64 a1_3]) (t := 40) ?_; intro gb381 hg w16 hbox hb; have n0_ := Aside0.mk (Kd.R_below (kr HO0.out) hb); have n1_ := Aside0.mk (Kept.below (S := (fun k_ => P0_ k_)) (impl_mapAfter.s0 HK.out) hb); have n2_ := an0 HB hb; have n3_ := Aside0.mk (hbox); have n4_ := Aside0.mk ((by rw [hg]; exact (by first | exact HK.out.1 | exact (show Kept w _ (fun k_ => P0_ k_) from impl_mapAfter.s0 HK.out).1) : w.heap.size ≤ gb381)); have n5_ := Aside0.mk ((by rw [hg]; exact (below_size (bp HB.out)) : w0.heap.size ≤ gb381)); clear HO0; clear HK; clear HB; have HO0 := n0_; have HK := n1_; have HB := n2_; have BK381 := n3_; have GW381 := n4_; have GE381 := n5_; clear n0_ n1_ n2_ n3_ n4_ n5_; clear hb hbox hg; obtain ⟨hcz17_0, hcz17_1, hcz17_2, hcz17_3, hfz17_0, hfz17_1, hfz17_2, hfz17_3⟩ := cl4 BK381; obtain ⟨Ao18, co18, eo18⟩ := Kd.R_slice HO0.out; subst eo18) | ((with_reducible refine gate_callee (f := 97) rfl ?_); refine gsl (some 14) rfl Try.func97 #[.slice Ao18 l0.length co18, .string a1_1] rfl ?_; (with_reducible refine (impl_PairGet.calls k _ _ l0 a1_1 t382 _ ?side1 ?side2 A4.out).mono ?_); (case side1 => exact impl_mapAfter.s1 HO0.out); (case side2 => exact (Kd.R_reads' HO0.out).2.1); rintro e w19 ⟨rfl, hb⟩; refine ⟨_, rfl, ?_⟩; have n0_ := Aside0.mk (Kd.R_below (kr HO0.out) hb); have n1_ := an1 BK381 hb; have n2_ := Aside0.mk (Kept.below (S := (fun k_ => P0_ k_)) (impl_mapAfter.s2 HK.out GW381.out) hb); have n3_ := an0 HB hb; clear HO0; clear BK381; clear HK; clear HB; have HO0 := n0_; have BK381 := n1_; have HK := n2_; have HB := n3_; clear n0_ n1_ n2_ n3_; (try clear hb); (try clear hb2); (try clear hk); (try clear hi); obtain ⟨hcz20_0, hcz20_1, hcz20_2, hcz20_3, hfz20_0, hfz20_1, hfz20_2, hfz20_3⟩ := cl4 BK381) | ((with_reducible refine gate_callee (f := 99) rfl ?_); refine gsl (some 48) rfl Try.func99 #[.slice Ao18 l0.length co18, .string a1_1, .int .i64 a1_2] rfl ?_; (with_reducible refine (impl_PairPut.calls k _ _ l0 a1_1 a1_2 t387 t388 _ ?side1 ?side2 A15.out).mono ?_); (case side1 => exact impl_mapAfter.s1 HO0.out); (case side2 => exact (Kd.R_reads' HO0.out).2.1); rintro e w21 ⟨v389, rfl, ho0, hb⟩; refine ⟨_, rfl, ?_⟩; have n0_ := Aside0.mk (Kd.R_elder' (kr HO0.out) (Kd.R_base ho0) hb); have n1_ := Aside0.mk (Kd.R_lower (Kd.R_new' (Kd.R_newM (M := fun k_ => (P0_ k_ ∨ w.heap.size ≤ k_)) ho0 (by first | exact HK.out.1 | exact (show Kept w _ (fun k_ => P0_ k_) from impl_mapAfter.s2 HK.out GW381.out).1) (fun k_ h_ => .inr h_)) (Kd.R_lt (kr HO0.out))) (below_size (bp HB.out))); have n2_ := an1 BK381 hb; have n3_ := Aside0.mk (Kept.below (S := (fun k_ => P0_ k_)) (impl_mapAfter.s2 HK.out GW381.out) hb); have n4_ := an0 HB hb; clear HO0; clear BK381; clear HK; clear HB; have HO0 := n0_; have HO390 := n1_; have BK381 := n2_; have HK := n3_; have HB := n4_; clear n0_ n1_ n2_ n3_ n4_; (try clear hb); (try clear hb2); (try clear hk); (try clear hi); (try clear ho0)))
        go_ret2
        exact ⟨_, fe, by (with_reducible repeat (first | apply Kd.R_alloc | apply Kd.R_drewN | apply Kd.R_drew)); exact Kd.R_mono HO390.out (fun _ hk => hk.1.1), bp HB.out, impl_mapAfter.s2 HK.out GW381.out⟩
      · rw [if_neg c14] at H
        have c14b0 : (a1_0 == 2) = false := beq_eq_false_iff_ne.mpr c14
        have c14b1 : (a1_0 != 2) = true := bne_iff_ne.mpr c14
        by_cases c22 : a1_0 = 4
        · rw [if_pos c22] at H
          have c22b0 : (a1_0 == 4) = true := beq_iff_eq.mpr c22
          have c22b1 : (a1_0 != 4) = false := bne_eq_false_iff_eq.mpr c22
          clear c22
          by_cases c23 : a1_3 = t382
          · rw [if_pos c23] at H
            have c23b0 : (a1_3 == t382) = true := beq_iff_eq.mpr c23
            have c23b1 : (a1_3 != t382) = false := bne_eq_false_iff_eq.mpr c23
            clear c23
            replace H := Option.bind_eq_some_iff.mp H
            obtain ⟨⟨t391, t392⟩, A240, H⟩ := H
            replace H : (some (t391, t392)) = some (r1, r2) := H
            have A24 := Aside0.mk A240
            clear A240
            simp only [Option.some.injEq, Prod.mk.injEq] at H
            obtain ⟨rfl, rfl⟩ := H
            go_enter Try.func156, Try.ntmps156
            go_wp2_with (first | ((with_reducible refine gate_dst (N := 4) rfl ?_); refine bxe (N := 4) (cs := #[.int .i64 a1_0, .string a1_1, .int .i64 a1_2, .int .i64 a1_3]) (t := 40) ?_; intro gb381 hg w25 hbox hb; have n0_ := Aside0.mk (Kd.R_below (kr HO0.out) hb); have n1_ := Aside0.mk (Kept.below (S := (fun k_ => P0_ k_)) (impl_mapAfter.s0 HK.out) hb); have n2_ := an0 HB hb; have n3_ := Aside0.mk (hbox); have n4_ := Aside0.mk ((by rw [hg]; exact (by first | exact HK.out.1 | exact (show Kept w _ (fun k_ => P0_ k_) from impl_mapAfter.s0 HK.out).1) : w.heap.size ≤ gb381)); have n5_ := Aside0.mk ((by rw [hg]; exact (below_size (bp HB.out)) : w0.heap.size ≤ gb381)); clear HO0; clear HK; clear HB; have HO0 := n0_; have HK := n1_; have HB := n2_; have BK381 := n3_; have GW381 := n4_; have GE381 := n5_; clear n0_ n1_ n2_ n3_ n4_ n5_; clear hb hbox hg; obtain ⟨hcz26_0, hcz26_1, hcz26_2, hcz26_3, hfz26_0, hfz26_1, hfz26_2, hfz26_3⟩ := cl4 BK381; obtain ⟨Ao27, co27, eo27⟩ := Kd.R_slice HO0.out; subst eo27) | ((with_reducible refine gate_callee (f := 97) rfl ?_); refine gsl (some 14) rfl Try.func97 #[.slice Ao27 l0.length co27, .string a1_1] rfl ?_; (with_reducible refine (impl_PairGet.calls k _ _ l0 a1_1 t382 _ ?side1 ?side2 A4.out).mono ?_); (case side1 => exact impl_mapAfter.s1 HO0.out); (case side2 => exact (Kd.R_reads' HO0.out).2.1); rintro e w28 ⟨rfl, hb⟩; refine ⟨_, rfl, ?_⟩; have n0_ := Aside0.mk (Kd.R_below (kr HO0.out) hb); have n1_ := an1 BK381 hb; have n2_ := Aside0.mk (Kept.below (S := (fun k_ => P0_ k_)) (impl_mapAfter.s2 HK.out GW381.out) hb); have n3_ := an0 HB hb; clear HO0; clear BK381; clear HK; clear HB; have HO0 := n0_; have BK381 := n1_; have HK := n2_; have HB := n3_; clear n0_ n1_ n2_ n3_; (try clear hb); (try clear hb2); (try clear hk); (try clear hi); obtain ⟨hcz29_0, hcz29_1, hcz29_2, hcz29_3, hfz29_0, hfz29_1, hfz29_2, hfz29_3⟩ := cl4 BK381) | ((with_reducible refine gate_callee (f := 99) rfl ?_); refine gsl (some 48) rfl Try.func99 #[.slice Ao27 l0.length co27, .string a1_1, .int .i64 a1_2] rfl ?_; (with_reducible refine (impl_PairPut.calls k _ _ l0 a1_1 a1_2 t391 t392 _ ?side1 ?side2 A24.out).mono ?_); (case side1 => exact impl_mapAfter.s1 HO0.out); (case side2 => exact (Kd.R_reads' HO0.out).2.1); rintro e w30 ⟨v393, rfl, ho0, hb⟩; refine ⟨_, rfl, ?_⟩; have n0_ := Aside0.mk (Kd.R_elder' (kr HO0.out) (Kd.R_base ho0) hb); have n1_ := Aside0.mk (Kd.R_lower (Kd.R_new' (Kd.R_newM (M := fun k_ => (P0_ k_ ∨ w.heap.size ≤ k_)) ho0 (by first | exact HK.out.1 | exact (show Kept w _ (fun k_ => P0_ k_) from impl_mapAfter.s2 HK.out GW381.out).1) (fun k_ h_ => .inr h_)) (Kd.R_lt (kr HO0.out))) (below_size (bp HB.out))); have n2_ := an1 BK381 hb; have n3_ := Aside0.mk (Kept.below (S := (fun k_ => P0_ k_)) (impl_mapAfter.s2 HK.out GW381.out) hb); have n4_ := an0 HB hb; clear HO0; clear BK381; clear HK; clear HB; have HO0 := n0_; have HO394 := n1_; have BK381 := n2_; have HK := n3_; have HB := n4_; clear n0_ n1_ n2_ n3_ n4_; (try clear hb); (try clear hb2); (try clear hk); (try clear hi); (try clear ho0)))
            go_ret2
            exact ⟨_, fe, by (with_reducible repeat (first | apply Kd.R_alloc | apply Kd.R_drewN | apply Kd.R_drew)); exact Kd.R_mono HO394.out (fun _ hk => hk.1.1), bp HB.out, impl_mapAfter.s2 HK.out GW381.out⟩
          · rw [if_neg c23] at H
            have c23b0 : (a1_3 == t382) = false := beq_eq_false_iff_ne.mpr c23
            have c23b1 : (a1_3 != t382) = true := bne_iff_ne.mpr c23
            simp only [Option.some.injEq, Prod.mk.injEq] at H
            obtain ⟨rfl, rfl⟩ := H
            go_enter Try.func156, Try.ntmps156
            go_wp2_with (first | ((with_reducible refine gate_dst (N := 4) rfl ?_); refine bxe (N := 4) (cs := #[.int .i64 a1_0, .string a1_1, .int .i64 a1_2, .int .i64 a1_3]) (t := 40) ?_; intro gb381 hg w31 hbox hb; have n0_ := Aside0.mk (Kd.R_below (kr HO0.out) hb); have n1_ := Aside0.mk (Kept.below (S := (fun k_ => P0_ k_)) (impl_mapAfter.s0 HK.out) hb); have n2_ := an0 HB hb; have n3_ := Aside0.mk (hbox); have n4_ := Aside0.mk ((by rw [hg]; exact (by first | exact HK.out.1 | exact (show Kept w _ (fun k_ => P0_ k_) from impl_mapAfter.s0 HK.out).1) : w.heap.size ≤ gb381)); have n5_ := Aside0.mk ((by rw [hg]; exact (below_size (bp HB.out)) : w0.heap.size ≤ gb381)); clear HO0; clear HK; clear HB; have HO0 := n0_; have HK := n1_; have HB := n2_; have BK381 := n3_; have GW381 := n4_; have GE381 := n5_; clear n0_ n1_ n2_ n3_ n4_ n5_; clear hb hbox hg; obtain ⟨hcz32_0, hcz32_1, hcz32_2, hcz32_3, hfz32_0, hfz32_1, hfz32_2, hfz32_3⟩ := cl4 BK381; obtain ⟨Ao33, co33, eo33⟩ := Kd.R_slice HO0.out; subst eo33) | ((with_reducible refine gate_callee (f := 97) rfl ?_); refine gsl (some 14) rfl Try.func97 #[.slice Ao33 l0.length co33, .string a1_1] rfl ?_; (with_reducible refine (impl_PairGet.calls k _ _ l0 a1_1 t382 _ ?side1 ?side2 A4.out).mono ?_); (case side1 => exact impl_mapAfter.s1 HO0.out); (case side2 => exact (Kd.R_reads' HO0.out).2.1); rintro e w34 ⟨rfl, hb⟩; refine ⟨_, rfl, ?_⟩; have n0_ := Aside0.mk (Kd.R_below (kr HO0.out) hb); have n1_ := an1 BK381 hb; have n2_ := Aside0.mk (Kept.below (S := (fun k_ => P0_ k_)) (impl_mapAfter.s2 HK.out GW381.out) hb); have n3_ := an0 HB hb; clear HO0; clear BK381; clear HK; clear HB; have HO0 := n0_; have BK381 := n1_; have HK := n2_; have HB := n3_; clear n0_ n1_ n2_ n3_; (try clear hb); (try clear hb2); (try clear hk); (try clear hi); obtain ⟨hcz35_0, hcz35_1, hcz35_2, hcz35_3, hfz35_0, hfz35_1, hfz35_2, hfz35_3⟩ := cl4 BK381))
            go_ret2
            exact ⟨_, fe, by (with_reducible repeat (first | apply Kd.R_alloc | apply Kd.R_drewN | apply Kd.R_drew)); exact HO0.out, bp HB.out, impl_mapAfter.s2 HK.out GW381.out⟩
        · rw [if_neg c22] at H
          have c22b0 : (a1_0 == 4) = false := beq_eq_false_iff_ne.mpr c22
          have c22b1 : (a1_0 != 4) = true := bne_iff_ne.mpr c22
          simp only [Option.some.injEq, Prod.mk.injEq] at H
          obtain ⟨rfl, rfl⟩ := H
          go_enter Try.func156, Try.ntmps156
          go_wp2_with (first | ((with_reducible refine gate_dst (N := 4) rfl ?_); refine bxe (N := 4) (cs := #[.int .i64 a1_0, .string a1_1, .int .i64 a1_2, .int .i64 a1_3]) (t := 40) ?_; intro gb381 hg w36 hbox hb; have n0_ := Aside0.mk (Kd.R_below (kr HO0.out) hb); have n1_ := Aside0.mk (Kept.below (S := (fun k_ => P0_ k_)) (impl_mapAfter.s0 HK.out) hb); have n2_ := an0 HB hb; have n3_ := Aside0.mk (hbox); have n4_ := Aside0.mk ((by rw [hg]; exact (by first | exact HK.out.1 | exact (show Kept w _ (fun k_ => P0_ k_) from impl_mapAfter.s0 HK.out).1) : w.heap.size ≤ gb381)); have n5_ := Aside0.mk ((by rw [hg]; exact (below_size (bp HB.out)) : w0.heap.size ≤ gb381)); clear HO0; clear HK; clear HB; have HO0 := n0_; have HK := n1_; have HB := n2_; have BK381 := n3_; have GW381 := n4_; have GE381 := n5_; clear n0_ n1_ n2_ n3_ n4_ n5_; clear hb hbox hg; obtain ⟨hcz37_0, hcz37_1, hcz37_2, hcz37_3, hfz37_0, hfz37_1, hfz37_2, hfz37_3⟩ := cl4 BK381; obtain ⟨Ao38, co38, eo38⟩ := Kd.R_slice HO0.out; subst eo38) | ((with_reducible refine gate_callee (f := 97) rfl ?_); refine gsl (some 14) rfl Try.func97 #[.slice Ao38 l0.length co38, .string a1_1] rfl ?_; (with_reducible refine (impl_PairGet.calls k _ _ l0 a1_1 t382 _ ?side1 ?side2 A4.out).mono ?_); (case side1 => exact impl_mapAfter.s1 HO0.out); (case side2 => exact (Kd.R_reads' HO0.out).2.1); rintro e w39 ⟨rfl, hb⟩; refine ⟨_, rfl, ?_⟩; have n0_ := Aside0.mk (Kd.R_below (kr HO0.out) hb); have n1_ := an1 BK381 hb; have n2_ := Aside0.mk (Kept.below (S := (fun k_ => P0_ k_)) (impl_mapAfter.s2 HK.out GW381.out) hb); have n3_ := an0 HB hb; clear HO0; clear BK381; clear HK; clear HB; have HO0 := n0_; have BK381 := n1_; have HK := n2_; have HB := n3_; clear n0_ n1_ n2_ n3_; (try clear hb); (try clear hb2); (try clear hk); (try clear hi); obtain ⟨hcz40_0, hcz40_1, hcz40_2, hcz40_3, hfz40_0, hfz40_1, hfz40_2, hfz40_3⟩ := cl4 BK381))
          go_ret2
          exact ⟨_, fe, by (with_reducible repeat (first | apply Kd.R_alloc | apply Kd.R_drewN | apply Kd.R_drew)); exact HO0.out, bp HB.out, impl_mapAfter.s2 HK.out GW381.out⟩
  · rw [if_neg c5] at H
    have c5b0 : (a2 == t382) = false := beq_eq_false_iff_ne.mpr c5
    have c5b1 : (a2 != t382) = true := bne_iff_ne.mpr c5
    simp only [Option.some.injEq, Prod.mk.injEq] at H
    obtain ⟨rfl, rfl⟩ := H
    go_enter Try.func156, Try.ntmps156
    go_wp2_with (first | ((with_reducible refine gate_dst (N := 4) rfl ?_); refine bxe (N := 4) (cs := #[.int .i64 a1_0, .string a1_1, .int .i64 a1_2, .int .i64 a1_3]) (t := 40) ?_; intro gb381 hg w41 hbox hb; have n0_ := Aside0.mk (Kd.R_below (kr HO0.out) hb); have n1_ := Aside0.mk (Kept.below (S := (fun k_ => P0_ k_)) (impl_mapAfter.s0 HK.out) hb); have n2_ := an0 HB hb; have n3_ := Aside0.mk (hbox); have n4_ := Aside0.mk ((by rw [hg]; exact (by first | exact HK.out.1 | exact (show Kept w _ (fun k_ => P0_ k_) from impl_mapAfter.s0 HK.out).1) : w.heap.size ≤ gb381)); have n5_ := Aside0.mk ((by rw [hg]; exact (below_size (bp HB.out)) : w0.heap.size ≤ gb381)); clear HO0; clear HK; clear HB; have HO0 := n0_; have HK := n1_; have HB := n2_; have BK381 := n3_; have GW381 := n4_; have GE381 := n5_; clear n0_ n1_ n2_ n3_ n4_ n5_; clear hb hbox hg; obtain ⟨hcz42_0, hcz42_1, hcz42_2, hcz42_3, hfz42_0, hfz42_1, hfz42_2, hfz42_3⟩ := cl4 BK381; obtain ⟨Ao43, co43, eo43⟩ := Kd.R_slice HO0.out; subst eo43) | ((with_reducible refine gate_callee (f := 97) rfl ?_); refine gsl (some 14) rfl Try.func97 #[.slice Ao43 l0.length co43, .string a1_1] rfl ?_; (with_reducible refine (impl_PairGet.calls k _ _ l0 a1_1 t382 _ ?side1 ?side2 A4.out).mono ?_); (case side1 => exact impl_mapAfter.s1 HO0.out); (case side2 => exact (Kd.R_reads' HO0.out).2.1); rintro e w44 ⟨rfl, hb⟩; refine ⟨_, rfl, ?_⟩; have n0_ := Aside0.mk (Kd.R_below (kr HO0.out) hb); have n1_ := an1 BK381 hb; have n2_ := Aside0.mk (Kept.below (S := (fun k_ => P0_ k_)) (impl_mapAfter.s2 HK.out GW381.out) hb); have n3_ := an0 HB hb; clear HO0; clear BK381; clear HK; clear HB; have HO0 := n0_; have BK381 := n1_; have HK := n2_; have HB := n3_; clear n0_ n1_ n2_ n3_; (try clear hb); (try clear hb2); (try clear hk); (try clear hi)))
    go_ret2
    exact ⟨_, fe, by first | exact Kd.R_nil _ _ _ _ _ | exact Kd.N_nil _ _ _ _ _ | exact Kd.V_nil _ _ _ _ _ | exact Kd.Q_nil _ _ _ _ _ | exact Kd.S_nil _ _ _ _ _, bp HB.out, impl_mapAfter.s2 HK.out GW381.out⟩

/-! ### impl_RunHistory: function 120 -/
mutual
def impl_RunHistory.l0 : Nat → List (S29) → List (S140) → Int → Int → Option ((List (S29)) × Bool)
  | 0, _, _, _, _ => none
  | k + 1, x4, x11, x12, x13 => if x13 < x12 then (if 0 ≤ x13 then (if x13 < (x11.length : Int) then ((impl_EntryValid.f k ((rd_T140 x11 x13).f0.f0) ((rd_T140 x11 x13).f0.f1) ((rd_T140 x11 x13).f0.f2.f0) ((rd_T140 x11 x13).f0.f2.f1) ((rd_T140 x11 x13).f0.f2.f2) ((rd_T140 x11 x13).f0.f2.f3)).bind fun t397 => (if t397 = true then (impl_RunHistory.j1 k x4 x11 x12 x13 (((rd_T140 x11 x13).f0.f2.f0) == 5) ((rd_T140 x11 x13).f0.f0) ((rd_T140 x11 x13).f0.f1) ((rd_T140 x11 x13).f0.f2.f0) ((rd_T140 x11 x13).f0.f2.f1) ((rd_T140 x11 x13).f0.f2.f2) ((rd_T140 x11 x13).f0.f2.f3) ((rd_T140 x11 x13).f1)) else (impl_RunHistory.j1 k x4 x11 x12 x13 true ((rd_T140 x11 x13).f0.f0) ((rd_T140 x11 x13).f0.f1) ((rd_T140 x11 x13).f0.f2.f0) ((rd_T140 x11 x13).f0.f2.f1) ((rd_T140 x11 x13).f0.f2.f2) ((rd_T140 x11 x13).f0.f2.f3) ((rd_T140 x11 x13).f1)))) else (none)) else (none)) else (some (x4, true))
def impl_RunHistory.j1 : Nat → List (S29) → List (S140) → Int → Int → Bool → Int → Int → Int → ByteArray → Int → Int → Int → Option ((List (S29)) × Bool)
  | 0, _, _, _, _, _, _, _, _, _, _, _, _ => none
  | k + 1, x4, x11, x12, x13, x27, x397000, x397001, x397002, x397003, x397004, x397005, x397006 => if x27 = true then (some (([] : List (S29)), false)) else (if x397006 = (-2) then (impl_RunHistory.l0 k x4 x11 x12 (wrap64 (x13 + 1))) else ((impl_mapAfter.f k x4 x397002 x397003 x397004 x397005 x397006).bind fun bt398 => (if bt398.2 = true then (impl_RunHistory.l0 k bt398.1 x11 x12 (wrap64 (x13 + 1))) else (some (([] : List (S29)), false)))))
end
def impl_RunHistory.f (k : Nat) (l0 : List (S140)) : Option ((List (S29)) × Bool) := if (l0.length : Int) > 200 then (some (([] : List (S29)), false)) else (impl_RunHistory.l0 k ([] : List (S29)) l0 (l0.length : Int) 0)
theorem impl_RunHistory.mono_l : ∀ k, (∀ y0 y1 y2 y3, LeO (impl_RunHistory.l0 k y0 y1 y2 y3) (impl_RunHistory.l0 (k + 1) y0 y1 y2 y3)) ∧ (∀ y0 y1 y2 y3 y4 y5 y6 y7 y8 y9 y10 y11, LeO (impl_RunHistory.j1 k y0 y1 y2 y3 y4 y5 y6 y7 y8 y9 y10 y11) (impl_RunHistory.j1 (k + 1) y0 y1 y2 y3 y4 y5 y6 y7 y8 y9 y10 y11))
  | 0 => ⟨fun _ _ _ _ r h => by simp [impl_RunHistory.l0] at h, fun _ _ _ _ _ _ _ _ _ _ _ _ r h => by simp [impl_RunHistory.j1] at h⟩
  | k + 1 => by
    obtain ⟨ih0, ih1⟩ := impl_RunHistory.mono_l k
    refine ⟨?_, ?_⟩
    · intro y0 y1 y2 y3
      unfold impl_RunHistory.l0
      repeat' first
      | (with_reducible exact ih0 _ _ _ _)
      | (with_reducible exact ih1 _ _ _ _ _ _ _ _ _ _ _ _)
      | (with_reducible exact impl_EntryValid.mono _ _ _ _ _ _ _)
      | (with_reducible exact impl_mapAfter.mono _ _ _ _ _ _ _)
      | (with_reducible exact LeO.refl _)
      | (with_reducible exact LeO.none _)
      | (with_reducible refine LeO.ite ?_ ?_)
      | (with_reducible refine LeO.bind ?_ (fun _ => ?_))
      | exact ih0 _ _ _ _
      | exact ih1 _ _ _ _ _ _ _ _ _ _ _ _
      | exact impl_EntryValid.mono _ _ _ _ _ _ _
      | exact impl_mapAfter.mono _ _ _ _ _ _ _
      | exact LeO.none _
      | refine LeO.ite ?_ ?_
      | refine LeO.bind ?_ (fun _ => ?_)
    · intro y0 y1 y2 y3 y4 y5 y6 y7 y8 y9 y10 y11
      unfold impl_RunHistory.j1
      repeat' first
      | (with_reducible exact ih0 _ _ _ _)
      | (with_reducible exact ih1 _ _ _ _ _ _ _ _ _ _ _ _)
      | (with_reducible exact impl_EntryValid.mono _ _ _ _ _ _ _)
      | (with_reducible exact impl_mapAfter.mono _ _ _ _ _ _ _)
      | (with_reducible exact LeO.refl _)
      | (with_reducible exact LeO.none _)
      | (with_reducible refine LeO.ite ?_ ?_)
      | (with_reducible refine LeO.bind ?_ (fun _ => ?_))
      | exact ih0 _ _ _ _
      | exact ih1 _ _ _ _ _ _ _ _ _ _ _ _
      | exact impl_EntryValid.mono _ _ _ _ _ _ _
      | exact impl_mapAfter.mono _ _ _ _ _ _ _
      | exact LeO.none _
      | refine LeO.ite ?_ ?_
      | refine LeO.bind ?_ (fun _ => ?_)
theorem impl_RunHistory.mono : ∀ a0 k, LeO (impl_RunHistory.f k a0) (impl_RunHistory.f (k + 1) a0) := by
  intro a0 k
  obtain ⟨ih0, ih1⟩ := impl_RunHistory.mono_l k
  unfold impl_RunHistory.f
  repeat' first
      | (with_reducible exact ih0 _ _ _ _)
      | (with_reducible exact ih1 _ _ _ _ _ _ _ _ _ _ _ _)
      | (with_reducible exact impl_EntryValid.mono _ _ _ _ _ _ _)
      | (with_reducible exact impl_mapAfter.mono _ _ _ _ _ _ _)
      | (with_reducible exact LeO.refl _)
      | (with_reducible exact LeO.none _)
      | (with_reducible refine LeO.ite ?_ ?_)
      | (with_reducible refine LeO.bind ?_ (fun _ => ?_))
      | exact ih0 _ _ _ _
      | exact ih1 _ _ _ _ _ _ _ _ _ _ _ _
      | exact impl_EntryValid.mono _ _ _ _ _ _ _
      | exact impl_mapAfter.mono _ _ _ _ _ _ _
      | exact LeO.none _
      | refine LeO.ite ?_ ?_
      | refine LeO.bind ?_ (fun _ => ?_)
set_option maxHeartbeats 8000000 in
set_option maxRecDepth 100000 in
theorem impl_RunHistory.calls (k : Nat) (A0 : Option Addr) (c0 : Nat) (l0 : List (S140)) (r1 : List (S29)) (r2 : Bool) (w : World) (hr0 : Kd.C k140 w A0 l0.length l0) (hc0 : l0.length ≤ c0) (h : impl_RunHistory.f k l0 = some (r1, r2)) :
    Calls Try.prog 120 #[.slice A0 l0.length c0] w fun e w' => ∃ v0_ : Value, e = .returned (.tuple #[v0_, .bool r2]) ∧ Kd.R k29 29 w' w.heap.size (fun _ => True) v0_ r1 ∧ Below w.heap.size w w' := by
  have hu140 := Try.underlying140
  have hu138 := Try.underlying138
  have hu40 := Try.underlying40
  have HR0 := Aside0.mk hr0
  have HC0 := Aside0.mk hc0
  clear hr0 hc0
  have HB := Aside0.mk (Below.refl w.heap.size w)
  have H : (if (l0.length : Int) > 200 then (some (([] : List (S29)), false)) else (impl_RunHistory.l0 k ([] : List (S29)) l0 (l0.length : Int) 0)) = some (r1, r2) := h
  clear h
  by_cases c2 : (l0.length : Int) > 200
  · rw [if_pos c2] at H
    have c2b0 : decide (200 < (l0.length : Int)) = true := decide_eq_true c2
    have c2b1 : decide (200 < l0.length) = true := decide_eq_true (by omega)
    clear c2
    simp only [Option.some.injEq, Prod.mk.injEq] at H
    obtain ⟨rfl, rfl⟩ := H
    go_enter Try.func120, Try.ntmps120
    go_wp2
    go_ret2
    exact ⟨_, fe, by first | exact Kd.R_nil _ _ _ _ _ | exact Kd.N_nil _ _ _ _ _ | exact Kd.V_nil _ _ _ _ _ | exact Kd.Q_nil _ _ _ _ _ | exact Kd.S_nil _ _ _ _ _, bp HB.out⟩
  · rw [if_neg c2] at H
    have c2b0 : decide (200 < (l0.length : Int)) = false := decide_eq_false c2
    have c2b1 : decide (200 < l0.length) = false := decide_eq_false (by omega)
    clear c2
    have H' := Aside0.mk H
    clear H
    go_enter Try.func120, Try.ntmps120
    go_wp2
    go_loopg [4, 13] k (fun kq v4 v13 w' => ∃ (x4_1 : List (S29)) (x13_1 : Int), v13 = .int .i64 x13_1 ∧ Aside0 (impl_RunHistory.l0 kq x4_1 l0 (l0.length : Int) x13_1 = some (r1, r2)) ∧ Aside0 (kq ≤ k) ∧ Aside0 (Kd.R k29 29 w' w.heap.size (fun _ => True) v4 x4_1) ∧ Aside0 (Below w.heap.size w w'))
    case atStart => exact ⟨(([] : List (S29))), (0), (by first | rfl | (simp; done) | (simp [*]; done) | (simp [bne_nil_, beq_nil_]; done)), H', ⟨Nat.le_refl _⟩, ⟨by first | exact Kd.R_nil _ _ _ _ _ | exact Kd.N_nil _ _ _ _ _ | exact Kd.V_nil _ _ _ _ _ | exact Kd.Q_nil _ _ _ _ _ | exact Kd.S_nil _ _ _ _ _⟩, ⟨bp HB.out⟩⟩
    case round =>
      clear H'
      try clear c1
      try clear c2
      try clear c2b0
      try clear c2b1
      try clear p2
      obtain ⟨x4_1, x13_1, rfl, HA, HK1, HO_4, HB⟩ := hrel
      cases gk with
      | zero => exact absurd HA.out (by simp [impl_RunHistory.l0])
      | succ k1 =>
        have H := HA.out
        clear HA
        simp only [impl_RunHistory.l0] at H
        by_cases c3 : x13_1 < (l0.length : Int)
        · rw [if_pos c3] at H
          have c3b0 : decide (x13_1 < (l0.length : Int)) = true := decide_eq_true c3
          clear c3
          by_cases c4 : 0 ≤ x13_1
          · rw [if_pos c4] at H
            have c4b0 : decide (0 ≤ x13_1) = true := decide_eq_true c4
            clear c4
            by_cases c5 : x13_1 < (l0.length : Int)
            · rw [if_pos c5] at H
              have c5b0 : decide (x13_1 < (l0.length : Int)) = true := decide_eq_true c5
              clear c5
              have HC6 := Aside0.mk H
              clear H
              have p395 : 0 ≤ (x13_1 : Int) := of_decide_eq_true (by first | (with_reducible assumption) | assumption)
              have q395 : x13_1 < (l0.length : Int) := of_decide_eq_true (by first | (with_reducible assumption) | assumption)
              obtain ⟨ad395, e395, hx395_0, hx395_1, hx395_2, hx395_3, hx395_4, hx395_5, hx395_6⟩ := at_T140 HR0.out x13_1 p395 q395
              cases e395
              replace hx395_0 := hcx HB hx395_0
              replace hx395_1 := hcx HB hx395_1
              replace hx395_2 := hcx HB hx395_2
              replace hx395_3 := hcx HB hx395_3
              replace hx395_4 := hcx HB hx395_4
              replace hx395_5 := hcx HB hx395_5
              replace hx395_6 := hcx HB hx395_6
              replace p395 := eq_true p395
              replace q395 := eq_true q395
              go_upto_region 7 with (first | ((with_reducible refine gate_dst (N := 6) rfl ?_); refine bxe (N := 6) (cs := #[.int .i64 0, .int .i64 0, .int .i64 0, .string (⟨#[]⟩ : ByteArray), .int .i64 0, .int .i64 0, .int .i64 0]) (t := 140) ?_; intro gb396 hg w7 hbox hb; have n0_ := Aside0.mk (Kd.R_below (kr HO_4.out) hb); have n1_ := an0 HB hb; have n2_ := Aside0.mk (hbox); have n3_ := an2 HB hg; have n4_ := an2 HB hg; clear HO_4; clear HB; have HO_4 := n0_; have HB := n1_; have BK396 := n2_; have GW396 := n3_; have GE396 := n4_; clear n0_ n1_ n2_ n3_ n4_; clear hb hbox hg; obtain ⟨hcz8_0, hcz8_1, hcz8_2, hcz8_3, hcz8_4, hcz8_5, hcz8_6, hfz8_0, hfz8_1, hfz8_2, hfz8_3, hfz8_4, hfz8_5, hfz8_6⟩ := cl7 BK396))
              (try simp only [Act.put, List.setIfInBounds_toArray, List.set_cons_zero, List.set_cons_succ])
              go_cut [27] (fun v27 wc => ∃ (kq : Nat) (x27_5 : Bool), v27 = .bool x27_5 ∧ Aside0 (impl_RunHistory.j1 kq x4_1 l0 (l0.length : Int) x13_1 x27_5 ((rd_T140 l0 x13_1).f0.f0) ((rd_T140 l0 x13_1).f0.f1) ((rd_T140 l0 x13_1).f0.f2.f0) ((rd_T140 l0 x13_1).f0.f2.f1) ((rd_T140 l0 x13_1).f0.f2.f2) ((rd_T140 l0 x13_1).f0.f2.f3) ((rd_T140 l0 x13_1).f1) = some (r1, r2)) ∧ Aside0 (kq ≤ k1) ∧ Aside0 (Kd.R k29 29 wc w.heap.size (fun _ => True) u4 x4_1) ∧ Aside0 (wc.heap[gb396]? = some (.cells #[.int .i64 ((rd_T140 l0 x13_1).f0.f0), .int .i64 ((rd_T140 l0 x13_1).f0.f1), .int .i64 ((rd_T140 l0 x13_1).f0.f2.f0), .string ((rd_T140 l0 x13_1).f0.f2.f1), .int .i64 ((rd_T140 l0 x13_1).f0.f2.f2), .int .i64 ((rd_T140 l0 x13_1).f0.f2.f3), .int .i64 ((rd_T140 l0 x13_1).f1)] 140 (0, 0))) ∧ Aside0 (Below w.heap.size w wc))
              case first =>
                have H := HC6.out
                clear HC6
                replace H := Option.bind_eq_some_iff.mp H
                obtain ⟨t397, A90, H⟩ := H
                replace H : (if t397 = true then (impl_RunHistory.j1 k1 x4_1 l0 (l0.length : Int) x13_1 (((rd_T140 l0 x13_1).f0.f2.f0) == 5) ((rd_T140 l0 x13_1).f0.f0) ((rd_T140 l0 x13_1).f0.f1) ((rd_T140 l0 x13_1).f0.f2.f0) ((rd_T140 l0 x13_1).f0.f2.f1) ((rd_T140 l0 x13_1).f0.f2.f2) ((rd_T140 l0 x13_1).f0.f2.f3) ((rd_T140 l0 x13_1).f1)) else (impl_RunHistory.j1 k1 x4_1 l0 (l0.length : Int) x13_1 true ((rd_T140 l0 x13_1).f0.f0) ((rd_T140 l0 x13_1).f0.f1) ((rd_T140 l0 x13_1).f0.f2.f0) ((rd_T140 l0 x13_1).f0.f2.f1) ((rd_T140 l0 x13_1).f0.f2.f2) ((rd_T140 l0 x13_1).f0.f2.f3) ((rd_T140 l0 x13_1).f1))) = some (r1, r2) := H
                have A9 := Aside0.mk A90
                clear A90
                by_cases c10 : t397 = true
                · subst c10
                  have H1 : (impl_RunHistory.j1 k1 x4_1 l0 (l0.length : Int) x13_1 (((rd_T140 l0 x13_1).f0.f2.f0) == 5) ((rd_T140 l0 x13_1).f0.f0) ((rd_T140 l0 x13_1).f0.f1) ((rd_T140 l0 x13_1).f0.f2.f0) ((rd_T140 l0 x13_1).f0.f2.f1) ((rd_T140 l0 x13_1).f0.f2.f2) ((rd_T140 l0 x13_1).f0.f2.f3) ((rd_T140 l0 x13_1).f1)) = some (r1, r2) := by rw [if_pos rfl] at H; exact H
                  clear H
                  have H := H1
                  clear H1
                  have H' := Aside0.mk H
                  clear H
                  obtain ⟨hcz11_0, hcz11_1, hcz11_2, hcz11_3, hcz11_4, hcz11_5, hcz11_6, hfz11_0, hfz11_1, hfz11_2, hfz11_3, hfz11_4, hfz11_5, hfz11_6⟩ := cl7 BK396
                  go_wp2_with (first | ((with_reducible refine gate_callee (f := 155) rfl ?_); refine gsl (some 19) rfl Try.func155 #[.agg #[.int .i64 ((rd_T140 l0 x13_1).f0.f0), .int .i64 ((rd_T140 l0 x13_1).f0.f1), .int .i64 ((rd_T140 l0 x13_1).f0.f2.f0), .string ((rd_T140 l0 x13_1).f0.f2.f1), .int .i64 ((rd_T140 l0 x13_1).f0.f2.f2), .int .i64 ((rd_T140 l0 x13_1).f0.f2.f3)]] rfl ?_; (with_reducible refine (impl_EntryValid.calls k1 ((rd_T140 l0 x13_1).f0.f0) ((rd_T140 l0 x13_1).f0.f1) ((rd_T140 l0 x13_1).f0.f2.f0) ((rd_T140 l0 x13_1).f0.f2.f1) ((rd_T140 l0 x13_1).f0.f2.f2) ((rd_T140 l0 x13_1).f0.f2.f3) true _ A9.out).mono ?_); rintro e w12 ⟨rfl, hb⟩; refine ⟨_, rfl, ?_⟩; have n0_ := Aside0.mk (Kd.R_below (by (with_reducible repeat (first | apply Kd.R_alloc | apply Kd.R_drewN | apply Kd.R_drew)); exact (Kd.R_mono (Kd.R_far (p := ⟨gb396, 6, none⟩) (Kd.R_far (p := ⟨gb396, 5, none⟩) (Kd.R_far (p := ⟨gb396, 4, none⟩) (Kd.R_far (p := ⟨gb396, 3, none⟩) (Kd.R_far (p := ⟨gb396, 2, none⟩) (Kd.R_far (p := ⟨gb396, 1, none⟩) (Kd.R_far (p := ⟨gb396, 0, none⟩) (Kd.R_types HO_4.out BK396.out (by decide)) (fun _ hk => hk.2) (.int .i64 ((rd_T140 l0 x13_1).f0.f0))) (fun _ hk => hk.2) (.int .i64 ((rd_T140 l0 x13_1).f0.f1))) (fun _ hk => hk.2) (.int .i64 ((rd_T140 l0 x13_1).f0.f2.f0))) (fun _ hk => hk.2) (.string ((rd_T140 l0 x13_1).f0.f2.f1))) (fun _ hk => hk.2) (.int .i64 ((rd_T140 l0 x13_1).f0.f2.f2))) (fun _ hk => hk.2) (.int .i64 ((rd_T140 l0 x13_1).f0.f2.f3))) (fun _ hk => hk.2) (.int .i64 ((rd_T140 l0 x13_1).f1))) (fun _ h_ => h_.1))) hb); have n1_ := Aside0.mk (blk_below (g := gb396) (o := .cells #[.int .i64 ((rd_T140 l0 x13_1).f0.f0), .int .i64 ((rd_T140 l0 x13_1).f0.f1), .int .i64 ((rd_T140 l0 x13_1).f0.f2.f0), .string ((rd_T140 l0 x13_1).f0.f2.f1), .int .i64 ((rd_T140 l0 x13_1).f0.f2.f2), .int .i64 ((rd_T140 l0 x13_1).f0.f2.f3), .int .i64 ((rd_T140 l0 x13_1).f1)] 140 (0, 0)) (by (with_reducible repeat (first | refine blk_drewN ?_ _ | refine blk_drew ?_ | refine blk_alloc ?_ _)); refine blk_put (cs := #[.int .i64 ((rd_T140 l0 x13_1).f0.f0), .int .i64 ((rd_T140 l0 x13_1).f0.f1), .int .i64 ((rd_T140 l0 x13_1).f0.f2.f0), .string ((rd_T140 l0 x13_1).f0.f2.f1), .int .i64 ((rd_T140 l0 x13_1).f0.f2.f2), .int .i64 ((rd_T140 l0 x13_1).f0.f2.f3), .int .i64 0]) ?_ 6 _ rfl; (with_reducible repeat (first | refine blk_drewN ?_ _ | refine blk_drew ?_ | refine blk_alloc ?_ _)); refine blk_put (cs := #[.int .i64 ((rd_T140 l0 x13_1).f0.f0), .int .i64 ((rd_T140 l0 x13_1).f0.f1), .int .i64 ((rd_T140 l0 x13_1).f0.f2.f0), .string ((rd_T140 l0 x13_1).f0.f2.f1), .int .i64 ((rd_T140 l0 x13_1).f0.f2.f2), .int .i64 0, .int .i64 0]) ?_ 5 _ rfl; (with_reducible repeat (first | refine blk_drewN ?_ _ | refine blk_drew ?_ | refine blk_alloc ?_ _)); refine blk_put (cs := #[.int .i64 ((rd_T140 l0 x13_1).f0.f0), .int .i64 ((rd_T140 l0 x13_1).f0.f1), .int .i64 ((rd_T140 l0 x13_1).f0.f2.f0), .string ((rd_T140 l0 x13_1).f0.f2.f1), .int .i64 0, .int .i64 0, .int .i64 0]) ?_ 4 _ rfl; (with_reducible repeat (first | refine blk_drewN ?_ _ | refine blk_drew ?_ | refine blk_alloc ?_ _)); refine blk_put (cs := #[.int .i64 ((rd_T140 l0 x13_1).f0.f0), .int .i64 ((rd_T140 l0 x13_1).f0.f1), .int .i64 ((rd_T140 l0 x13_1).f0.f2.f0), .string (⟨#[]⟩ : ByteArray), .int .i64 0, .int .i64 0, .int .i64 0]) ?_ 3 _ rfl; (with_reducible repeat (first | refine blk_drewN ?_ _ | refine blk_drew ?_ | refine blk_alloc ?_ _)); refine blk_put (cs := #[.int .i64 ((rd_T140 l0 x13_1).f0.f0), .int .i64 ((rd_T140 l0 x13_1).f0.f1), .int .i64 0, .string (⟨#[]⟩ : ByteArray), .int .i64 0, .int .i64 0, .int .i64 0]) ?_ 2 _ rfl; (with_reducible repeat (first | refine blk_drewN ?_ _ | refine blk_drew ?_ | refine blk_alloc ?_ _)); refine blk_put (cs := #[.int .i64 ((rd_T140 l0 x13_1).f0.f0), .int .i64 0, .int .i64 0, .string (⟨#[]⟩ : ByteArray), .int .i64 0, .int .i64 0, .int .i64 0]) ?_ 1 _ rfl; (with_reducible repeat (first | refine blk_drewN ?_ _ | refine blk_drew ?_ | refine blk_alloc ?_ _)); refine blk_put (cs := #[.int .i64 0, .int .i64 0, .int .i64 0, .string (⟨#[]⟩ : ByteArray), .int .i64 0, .int .i64 0, .int .i64 0]) ?_ 0 _ rfl; (with_reducible repeat (first | refine blk_drewN ?_ _ | refine blk_drew ?_ | refine blk_alloc ?_ _)); exact BK396.out) hb); have n2_ := an0 HB hb; clear HO_4; clear BK396; clear HB; have HO_4 := n0_; have BK396 := n1_; have HB := n2_; clear n0_ n1_ n2_; (try clear hb); (try clear hb2); (try clear hk); (try clear hi); obtain ⟨hcz13_0, hcz13_1, hcz13_2, hcz13_3, hcz13_4, hcz13_5, hcz13_6, hfz13_0, hfz13_1, hfz13_2, hfz13_3, hfz13_4, hfz13_5, hfz13_6⟩ := cl7 BK396))
                  go_meet
                  case rel => exact ⟨_, ((((rd_T140 l0 x13_1).f0.f2.f0) == 5)), (by first | rfl | (simp; done) | (simp [*]; done) | (simp [bne_nil_, beq_nil_]; done)), H', ⟨by have := HK1.out; first | omega | exact Nat.le_refl _⟩, ⟨by (with_reducible repeat (first | apply Kd.R_alloc | apply Kd.R_drewN | apply Kd.R_drew)); exact HO_4.out⟩, ⟨kb BK396.out⟩, ⟨bp HB.out⟩⟩
                · replace c10 := Bool.eq_false_iff.mpr c10
                  subst c10
                  have H1 : (impl_RunHistory.j1 k1 x4_1 l0 (l0.length : Int) x13_1 true ((rd_T140 l0 x13_1).f0.f0) ((rd_T140 l0 x13_1).f0.f1) ((rd_T140 l0 x13_1).f0.f2.f0) ((rd_T140 l0 x13_1).f0.f2.f1) ((rd_T140 l0 x13_1).f0.f2.f2) ((rd_T140 l0 x13_1).f0.f2.f3) ((rd_T140 l0 x13_1).f1)) = some (r1, r2) := by rw [if_neg (show ¬ (false = true) by decide)] at H; exact H
                  clear H
                  have H := H1
                  clear H1
                  have H' := Aside0.mk H
                  clear H
                  obtain ⟨hcz14_0, hcz14_1, hcz14_2, hcz14_3, hcz14_4, hcz14_5, hcz14_6, hfz14_0, hfz14_1, hfz14_2, hfz14_3, hfz14_4, hfz14_5, hfz14_6⟩ := cl7 BK396
                  go_wp2_with (first | ((with_reducible refine gate_callee (f := 155) rfl ?_); refine gsl (some 19) rfl Try.func155 #[.agg #[.int .i64 ((rd_T140 l0 x13_1).f0.f0), .int .i64 ((rd_T140 l0 x13_1).f0.f1), .int .i64 ((rd_T140 l0 x13_1).f0.f2.f0), .string ((rd_T140 l0 x13_1).f0.f2.f1), .int .i64 ((rd_T140 l0 x13_1).f0.f2.f2), .int .i64 ((rd_T140 l0 x13_1).f0.f2.f3)]] rfl ?_; (with_reducible refine (impl_EntryValid.calls k1 ((rd_T140 l0 x13_1).f0.f0) ((rd_T140 l0 x13_1).f0.f1) ((rd_T140 l0 x13_1).f0.f2.f0) ((rd_T140 l0 x13_1).f0.f2.f1) ((rd_T140 l0 x13_1).f0.f2.f2) ((rd_T140 l0 x13_1).f0.f2.f3) false _ A9.out).mono ?_); rintro e w15 ⟨rfl, hb⟩; refine ⟨_, rfl, ?_⟩; have n0_ := Aside0.mk (Kd.R_below (by (with_reducible repeat (first | apply Kd.R_alloc | apply Kd.R_drewN | apply Kd.R_drew)); exact (Kd.R_mono (Kd.R_far (p := ⟨gb396, 6, none⟩) (Kd.R_far (p := ⟨gb396, 5, none⟩) (Kd.R_far (p := ⟨gb396, 4, none⟩) (Kd.R_far (p := ⟨gb396, 3, none⟩) (Kd.R_far (p := ⟨gb396, 2, none⟩) (Kd.R_far (p := ⟨gb396, 1, none⟩) (Kd.R_far (p := ⟨gb396, 0, none⟩) (Kd.R_types HO_4.out BK396.out (by decide)) (fun _ hk => hk.2) (.int .i64 ((rd_T140 l0 x13_1).f0.f0))) (fun _ hk => hk.2) (.int .i64 ((rd_T140 l0 x13_1).f0.f1))) (fun _ hk => hk.2) (.int .i64 ((rd_T140 l0 x13_1).f0.f2.f0))) (fun _ hk => hk.2) (.string ((rd_T140 l0 x13_1).f0.f2.f1))) (fun _ hk => hk.2) (.int .i64 ((rd_T140 l0 x13_1).f0.f2.f2))) (fun _ hk => hk.2) (.int .i64 ((rd_T140 l0 x13_1).f0.f2.f3))) (fun _ hk => hk.2) (.int .i64 ((rd_T140 l0 x13_1).f1))) (fun _ h_ => h_.1))) hb); have n1_ := Aside0.mk (blk_below (g := gb396) (o := .cells #[.int .i64 ((rd_T140 l0 x13_1).f0.f0), .int .i64 ((rd_T140 l0 x13_1).f0.f1), .int .i64 ((rd_T140 l0 x13_1).f0.f2.f0), .string ((rd_T140 l0 x13_1).f0.f2.f1), .int .i64 ((rd_T140 l0 x13_1).f0.f2.f2), .int .i64 ((rd_T140 l0 x13_1).f0.f2.f3), .int .i64 ((rd_T140 l0 x13_1).f1)] 140 (0, 0)) (by (with_reducible repeat (first | refine blk_drewN ?_ _ | refine blk_drew ?_ | refine blk_alloc ?_ _)); refine blk_put (cs := #[.int .i64 ((rd_T140 l0 x13_1).f0.f0), .int .i64 ((rd_T140 l0 x13_1).f0.f1), .int .i64 ((rd_T140 l0 x13_1).f0.f2.f0), .string ((rd_T140 l0 x13_1).f0.f2.f1), .int .i64 ((rd_T140 l0 x13_1).f0.f2.f2), .int .i64 ((rd_T140 l0 x13_1).f0.f2.f3), .int .i64 0]) ?_ 6 _ rfl; (with_reducible repeat (first | refine blk_drewN ?_ _ | refine blk_drew ?_ | refine blk_alloc ?_ _)); refine blk_put (cs := #[.int .i64 ((rd_T140 l0 x13_1).f0.f0), .int .i64 ((rd_T140 l0 x13_1).f0.f1), .int .i64 ((rd_T140 l0 x13_1).f0.f2.f0), .string ((rd_T140 l0 x13_1).f0.f2.f1), .int .i64 ((rd_T140 l0 x13_1).f0.f2.f2), .int .i64 0, .int .i64 0]) ?_ 5 _ rfl; (with_reducible repeat (first | refine blk_drewN ?_ _ | refine blk_drew ?_ | refine blk_alloc ?_ _)); refine blk_put (cs := #[.int .i64 ((rd_T140 l0 x13_1).f0.f0), .int .i64 ((rd_T140 l0 x13_1).f0.f1), .int .i64 ((rd_T140 l0 x13_1).f0.f2.f0), .string ((rd_T140 l0 x13_1).f0.f2.f1), .int .i64 0, .int .i64 0, .int .i64 0]) ?_ 4 _ rfl; (with_reducible repeat (first | refine blk_drewN ?_ _ | refine blk_drew ?_ | refine blk_alloc ?_ _)); refine blk_put (cs := #[.int .i64 ((rd_T140 l0 x13_1).f0.f0), .int .i64 ((rd_T140 l0 x13_1).f0.f1), .int .i64 ((rd_T140 l0 x13_1).f0.f2.f0), .string (⟨#[]⟩ : ByteArray), .int .i64 0, .int .i64 0, .int .i64 0]) ?_ 3 _ rfl; (with_reducible repeat (first | refine blk_drewN ?_ _ | refine blk_drew ?_ | refine blk_alloc ?_ _)); refine blk_put (cs := #[.int .i64 ((rd_T140 l0 x13_1).f0.f0), .int .i64 ((rd_T140 l0 x13_1).f0.f1), .int .i64 0, .string (⟨#[]⟩ : ByteArray), .int .i64 0, .int .i64 0, .int .i64 0]) ?_ 2 _ rfl; (with_reducible repeat (first | refine blk_drewN ?_ _ | refine blk_drew ?_ | refine blk_alloc ?_ _)); refine blk_put (cs := #[.int .i64 ((rd_T140 l0 x13_1).f0.f0), .int .i64 0, .int .i64 0, .string (⟨#[]⟩ : ByteArray), .int .i64 0, .int .i64 0, .int .i64 0]) ?_ 1 _ rfl; (with_reducible repeat (first | refine blk_drewN ?_ _ | refine blk_drew ?_ | refine blk_alloc ?_ _)); refine blk_put (cs := #[.int .i64 0, .int .i64 0, .int .i64 0, .string (⟨#[]⟩ : ByteArray), .int .i64 0, .int .i64 0, .int .i64 0]) ?_ 0 _ rfl; (with_reducible repeat (first | refine blk_drewN ?_ _ | refine blk_drew ?_ | refine blk_alloc ?_ _)); exact BK396.out) hb); have n2_ := an0 HB hb; clear HO_4; clear BK396; clear HB; have HO_4 := n0_; have BK396 := n1_; have HB := n2_; clear n0_ n1_ n2_; (try clear hb); (try clear hb2); (try clear hk); (try clear hi)))
                  go_meet
                  case rel => exact ⟨_, (true), (by first | rfl | (simp; done) | (simp [*]; done) | (simp [bne_nil_, beq_nil_]; done)), H', ⟨by have := HK1.out; first | omega | exact Nat.le_refl _⟩, ⟨by (with_reducible repeat (first | apply Kd.R_alloc | apply Kd.R_drewN | apply Kd.R_drew)); exact HO_4.out⟩, ⟨kb BK396.out⟩, ⟨bp HB.out⟩⟩
              case rest =>
                clear HC6
                try clear c1
                try clear c2
                try clear c2b0
                try clear c2b1
                try clear p2
                try clear c3
                try clear c3b0
                try clear p3
                try clear q3
                try clear hx3
                try clear c4
                try clear c4b0
                try clear c5
                try clear c5b0
                try clear p6
                try clear c10
                try clear c12
                try clear c15
                try clear hcz11_0
                try clear hcz11_1
                try clear hcz11_2
                try clear hcz11_3
                try clear hcz11_4
                try clear hcz11_5
                try clear hcz11_6
                try clear hcz13_0
                try clear hcz13_1
                try clear hcz13_2
                try clear hcz13_3
                try clear hcz13_4
                try clear hcz13_5
                try clear hcz13_6
                try clear hcz14_0
                try clear hcz14_1
                try clear hcz14_2
                try clear hcz14_3
                try clear hcz14_4
                try clear hcz14_5
                try clear hcz14_6
                try clear hcz8_0
                try clear hcz8_1
                try clear hcz8_2
                try clear hcz8_3
                try clear hcz8_4
                try clear hcz8_5
                try clear hcz8_6
                try clear hfz11_0
                try clear hfz11_1
                try clear hfz11_2
                try clear hfz11_3
                try clear hfz11_4
                try clear hfz11_5
                try clear hfz11_6
                try clear hfz13_0
                try clear hfz13_1
                try clear hfz13_2
                try clear hfz13_3
                try clear hfz13_4
                try clear hfz13_5
                try clear hfz13_6
                try clear hfz14_0
                try clear hfz14_1
                try clear hfz14_2
                try clear hfz14_3
                try clear hfz14_4
                try clear hfz14_5
                try clear hfz14_6
                try clear hfz8_0
                try clear hfz8_1
                try clear hfz8_2
                try clear hfz8_3
                try clear hfz8_4
                try clear hfz8_5
                try clear hfz8_6
                try clear hx395_0
                try clear hx395_1
                try clear hx395_2
                try clear hx395_3
                try clear hx395_4
                try clear hx395_5
                try clear hx395_6
                try clear p2
                try clear p395
                try clear q395
                obtain ⟨kq, x27_5, rfl, HA, HJ5, HO_4, BK396, HB⟩ := hcut
                cases kq with
                | zero => exact absurd HA.out (by simp [impl_RunHistory.j1])
                | succ kj5 =>
                  have H := HA.out
                  clear HA
                  simp only [impl_RunHistory.j1] at H
                  by_cases c16 : x27_5 = true
                  · subst c16
                    have H1 : (some (([] : List (S29)), false)) = some (r1, r2) := by rw [if_pos rfl] at H; exact H
                    clear H
                    have H := H1
                    clear H1
                    simp only [Option.some.injEq, Prod.mk.injEq] at H
                    obtain ⟨rfl, rfl⟩ := H
                    go_wp2
                    go_ret2
                    exact ⟨_, fe, by first | exact Kd.R_nil _ _ _ _ _ | exact Kd.N_nil _ _ _ _ _ | exact Kd.V_nil _ _ _ _ _ | exact Kd.Q_nil _ _ _ _ _ | exact Kd.S_nil _ _ _ _ _, bp HB.out⟩
                  · replace c16 := Bool.eq_false_iff.mpr c16
                    subst c16
                    have H1 : (if ((rd_T140 l0 x13_1).f1) = (-2) then (impl_RunHistory.l0 kj5 x4_1 l0 (l0.length : Int) (wrap64 (x13_1 + 1))) else ((impl_mapAfter.f kj5 x4_1 ((rd_T140 l0 x13_1).f0.f2.f0) ((rd_T140 l0 x13_1).f0.f2.f1) ((rd_T140 l0 x13_1).f0.f2.f2) ((rd_T140 l0 x13_1).f0.f2.f3) ((rd_T140 l0 x13_1).f1)).bind fun bt398 => (if bt398.2 = true then (impl_RunHistory.l0 kj5 bt398.1 l0 (l0.length : Int) (wrap64 (x13_1 + 1))) else (some (([] : List (S29)), false))))) = some (r1, r2) := by rw [if_neg (show ¬ (false = true) by decide)] at H; exact H
                    clear H
                    have H := H1
                    clear H1
                    by_cases c17 : ((rd_T140 l0 x13_1).f1) = (-2)
                    · rw [if_pos c17] at H
                      have c17b0 : (((rd_T140 l0 x13_1).f1) == (-2)) = true := beq_iff_eq.mpr c17
                      have c17b1 : (((rd_T140 l0 x13_1).f1) != (-2)) = false := bne_eq_false_iff_eq.mpr c17
                      clear c17
                      have H' := Aside0.mk H
                      clear H
                      obtain ⟨hcz18_0, hcz18_1, hcz18_2, hcz18_3, hcz18_4, hcz18_5, hcz18_6, hfz18_0, hfz18_1, hfz18_2, hfz18_3, hfz18_4, hfz18_5, hfz18_6⟩ := cl7 BK396
                      go_wp2
                      go_roundg kj5
                      case measure => have := HK1.out; have := HJ5.out; omega
                      case rel => exact ⟨(x4_1), (wrap64 (x13_1 + 1)), (by first | rfl | (simp; done) | (simp [*]; done) | (simp [bne_nil_, beq_nil_]; done)), H', ⟨by have := HK1.out; have := HJ5.out; omega⟩, ⟨by (with_reducible repeat (first | apply Kd.R_alloc | apply Kd.R_drewN | apply Kd.R_drew)); exact HO_4.out⟩, ⟨bp HB.out⟩⟩
                    · rw [if_neg c17] at H
                      have c17b0 : (((rd_T140 l0 x13_1).f1) == (-2)) = false := beq_eq_false_iff_ne.mpr c17
                      have c17b1 : (((rd_T140 l0 x13_1).f1) != (-2)) = true := bne_iff_ne.mpr c17
                      replace H := Option.bind_eq_some_iff.mp H
                      obtain ⟨⟨t398, t401⟩, A190, H⟩ := H
                      replace H : (if t401 = true then (impl_RunHistory.l0 kj5 t398 l0 (l0.length : Int) (wrap64 (x13_1 + 1))) else (some (([] : List (S29)), false))) = some (r1, r2) := H
                      have A19 := Aside0.mk A190
                      clear A190
                      by_cases c20 : t401 = true
                      · subst c20
                        have H1 : (impl_RunHistory.l0 kj5 t398 l0 (l0.length : Int) (wrap64 (x13_1 + 1))) = some (r1, r2) := by rw [if_pos rfl] at H; exact H
                        clear H
                        have H := H1
                        clear H1
                        have H' := Aside0.mk H
                        clear H
                        obtain ⟨hcz21_0, hcz21_1, hcz21_2, hcz21_3, hcz21_4, hcz21_5, hcz21_6, hfz21_0, hfz21_1, hfz21_2, hfz21_3, hfz21_4, hfz21_5, hfz21_6⟩ := cl7 BK396
                        obtain ⟨Ao22, co22, eo22⟩ := Kd.R_slice HO_4.out
                        subst eo22
                        go_wp2_with (first | ((with_reducible refine gate_callee (f := 156) rfl ?_); refine gsl (some 38) rfl Try.func156 #[.slice Ao22 x4_1.length co22, .agg #[.int .i64 ((rd_T140 l0 x13_1).f0.f2.f0), .string ((rd_T140 l0 x13_1).f0.f2.f1), .int .i64 ((rd_T140 l0 x13_1).f0.f2.f2), .int .i64 ((rd_T140 l0 x13_1).f0.f2.f3)], .int .i64 ((rd_T140 l0 x13_1).f1)] rfl ?_; (with_reducible refine (impl_mapAfter.calls kj5 (fun k_ => some k_ = (.slice Ao22 x4_1.length co22 : Value).ownBlock) (.slice Ao22 x4_1.length co22) x4_1 ((rd_T140 l0 x13_1).f0.f2.f0) ((rd_T140 l0 x13_1).f0.f2.f1) ((rd_T140 l0 x13_1).f0.f2.f2) ((rd_T140 l0 x13_1).f0.f2.f3) ((rd_T140 l0 x13_1).f1) t398 true w _ ?side1 ?side2 A19.out).mono ?_); (case side1 => repeat (first | (with_reducible first | exact HB.out | apply below_alloc | apply pw_below_drewN | apply below_drew1 | refine below_set ?_ GE396.out) | exact HB.out)); (case side2 => exact Kd.R_tight rfl HO_4.out); rintro e w23 ⟨v399, rfl, ho0, hb, hkp⟩; refine ⟨_, rfl, ?_⟩; have n0_ := Aside0.mk (blk_kept (kb BK396.out) hkp (fun hs_ => (fun e_ => (Kd.R_ne HO_4.out BK396.out (by decide)) e_) hs_)); have n1_ := Aside0.mk (Kd.R_mono (ok' := fun k_ => True) ho0 (fun k_ hk_ => trivial)); have n2_ := Aside0.mk (hb); clear BK396; clear HB; clear HO_4; have BK396 := n0_; have HO400 := n1_; have HB := n2_; clear n0_ n1_ n2_; (try clear hb); (try clear hkp); (try clear ho0)))
                        go_roundg kj5
                        case measure => have := HK1.out; have := HJ5.out; omega
                        case rel => exact ⟨(t398), (wrap64 (x13_1 + 1)), (by first | rfl | (simp; done) | (simp [*]; done) | (simp [bne_nil_, beq_nil_]; done)), H', ⟨by have := HK1.out; have := HJ5.out; omega⟩, ⟨by (with_reducible repeat (first | apply Kd.R_alloc | apply Kd.R_drewN | apply Kd.R_drew)); exact HO400.out⟩, ⟨bp HB.out⟩⟩
                      · replace c20 := Bool.eq_false_iff.mpr c20
                        subst c20
                        have H1 : (some (([] : List (S29)), false)) = some (r1, r2) := by rw [if_neg (show ¬ (false = true) by decide)] at H; exact H
                        clear H
                        have H := H1
                        clear H1
                        simp only [Option.some.injEq, Prod.mk.injEq] at H
                        obtain ⟨rfl, rfl⟩ := H
                        obtain ⟨hcz24_0, hcz24_1, hcz24_2, hcz24_3, hcz24_4, hcz24_5, hcz24_6, hfz24_0, hfz24_1, hfz24_2, hfz24_3, hfz24_4, hfz24_5, hfz24_6⟩ := cl7 BK396
                        obtain ⟨Ao25, co25, eo25⟩ := Kd.R_slice HO_4.out
                        subst eo25
                        go_wp2_with (first | ((with_reducible refine gate_callee (f := 156) rfl ?_); refine gsl (some 38) rfl Try.func156 #[.slice Ao25 x4_1.length co25, .agg #[.int .i64 ((rd_T140 l0 x13_1).f0.f2.f0), .string ((rd_T140 l0 x13_1).f0.f2.f1), .int .i64 ((rd_T140 l0 x13_1).f0.f2.f2), .int .i64 ((rd_T140 l0 x13_1).f0.f2.f3)], .int .i64 ((rd_T140 l0 x13_1).f1)] rfl ?_; (with_reducible refine (impl_mapAfter.calls kj5 (fun k_ => some k_ = (.slice Ao25 x4_1.length co25 : Value).ownBlock) (.slice Ao25 x4_1.length co25) x4_1 ((rd_T140 l0 x13_1).f0.f2.f0) ((rd_T140 l0 x13_1).f0.f2.f1) ((rd_T140 l0 x13_1).f0.f2.f2) ((rd_T140 l0 x13_1).f0.f2.f3) ((rd_T140 l0 x13_1).f1) t398 false w _ ?side1 ?side2 A19.out).mono ?_); (case side1 => repeat (first | (with_reducible first | exact HB.out | apply below_alloc | apply pw_below_drewN | apply below_drew1 | refine below_set ?_ GE396.out) | exact HB.out)); (case side2 => exact Kd.R_tight rfl HO_4.out); rintro e w26 ⟨v399, rfl, ho0, hb, hkp⟩; refine ⟨_, rfl, ?_⟩; have n0_ := Aside0.mk (blk_kept (kb BK396.out) hkp (fun hs_ => (fun e_ => (Kd.R_ne HO_4.out BK396.out (by decide)) e_) hs_)); have n1_ := Aside0.mk (Kd.R_mono (ok' := fun k_ => True) ho0 (fun k_ hk_ => trivial)); have n2_ := Aside0.mk (hb); clear BK396; clear HB; clear HO_4; have BK396 := n0_; have HO400 := n1_; have HB := n2_; clear n0_ n1_ n2_; (try clear hb); (try clear hkp); (try clear ho0)))
                        go_ret2
                        exact ⟨_, fe, by first | exact Kd.R_nil _ _ _ _ _ | exact Kd.N_nil _ _ _ _ _ | exact Kd.V_nil _ _ _ _ _ | exact Kd.Q_nil _ _ _ _ _ | exact Kd.S_nil _ _ _ _ _, bp HB.out⟩
            · rw [if_neg c5] at H
              exact absurd H (by simp)
          · rw [if_neg c4] at H
            exact absurd H (by simp)
        · rw [if_neg c3] at H
          have c3b0 : decide (x13_1 < (l0.length : Int)) = false := decide_eq_false c3
          clear c3
          simp only [Option.some.injEq, Prod.mk.injEq] at H
          obtain ⟨rfl, rfl⟩ := H
          go_wp2
          go_ret2
          exact ⟨_, fe, by (with_reducible repeat (first | apply Kd.R_alloc | apply Kd.R_drewN | apply Kd.R_drew)); exact HO_4.out, bp HB.out⟩

end Go.Proofs.Ytfeeifefmenlmaa.PFnExactRepliesRight
