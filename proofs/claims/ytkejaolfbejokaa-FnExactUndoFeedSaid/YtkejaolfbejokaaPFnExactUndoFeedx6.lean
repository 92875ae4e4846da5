-- Written by a program of this session, in the manner of the kit's print (wip/pp.py): functions and their contracts.
import Derived.Test.YtkejaolfbejokaaPFnExactUndoFeedx0
import Derived.Test.YtkejaolfbejokaaPFnExactUndoFeedx1
import Derived.Test.YtkejaolfbejokaaPFnExactUndoFeedx2
import Derived.Test.YtkejaolfbejokaaPFnExactUndoFeedx4
import Derived.Test.YtkejaolfbejokaaPFnExactUndoFeedx5
namespace Go.Proofs.Ytkejaolfbejokaa.PFnExactUndoFeed
open Go.RowKit Go.Proofs.YtkejaolfbejokaaW.PrintWords Go.Proofs.YtkejaolfbejokaaW.PrintLast Go.Proofs.YtkejaolfbejokaaW.PrintMore
attribute [local go_sem] binOp_leq_str binOp_gtr_str binOp_geq_str max2_int min2_int max_two min_two max_three min_three max_four min_four   -- for this text's walks alone
set_option linter.unusedVariables false
set_option linter.unusedSimpArgs false

/-! ### impl_UndoFeed: function 31 -/
mutual
def impl_UndoFeed.j0 : Nat → List (S110) → Int → Int → Bool → Option ((List (S110)))
  | 0, _, _, _, _ => none
  | k + 1, x0, x1, x5, x31 => if x31 = true then (some ([] : List (S110))) else (impl_UndoFeed.l0 k x0 x1 ([] : List (S110)) x5)
def impl_UndoFeed.l0 : Nat → List (S110) → Int → List (S110) → Int → Option ((List (S110)))
  | 0, _, _, _, _ => none
  | k + 1, x0, x1, x6, x7 => if x7 ≥ 0 then (if 0 ≤ x7 then (if x7 < (x0.length : Int) then (if x6.length < 3518437208883 then (impl_UndoFeed.l0 k x0 x1 (x6 ++ [(⟨wrap64 ((wrap64 (x1 - 1)) - ((rd_T110 x0 x7).f0)), (rd_T110 x0 x7).f1, (rd_T110 x0 x7).f3, (rd_T110 x0 x7).f2⟩ : S110)]) (wrap64 (x7 - 1))) else (none)) else (none)) else (none)) else (some x6)
end
def impl_UndoFeed.f (k : Nat) (l0 : List (S110)) (a1 : Int) : Option ((List (S110))) := (impl_FeedValid.f k l0).bind fun t164 => (if t164 = true then (if (wrap64 ((l0.length : Int) - 1)) < 0 then (impl_UndoFeed.j0 k l0 a1 (wrap64 ((l0.length : Int) - 1)) true) else (if 0 ≤ (wrap64 ((l0.length : Int) - 1)) then (if (wrap64 ((l0.length : Int) - 1)) < (l0.length : Int) then (if a1 ≤ ((rd_T110 l0 (wrap64 ((l0.length : Int) - 1))).f0) then (impl_UndoFeed.j0 k l0 a1 (wrap64 ((l0.length : Int) - 1)) true) else (impl_UndoFeed.j0 k l0 a1 (wrap64 ((l0.length : Int) - 1)) (decide (a1 > 24)))) else (none)) else (none))) else (impl_UndoFeed.j0 k l0 a1 (wrap64 ((l0.length : Int) - 1)) true))
theorem impl_UndoFeed.mono_l : ∀ k, (∀ y0 y1 y2 y3, LeO (impl_UndoFeed.j0 k y0 y1 y2 y3) (impl_UndoFeed.j0 (k + 1) y0 y1 y2 y3)) ∧ (∀ y0 y1 y2 y3, LeO (impl_UndoFeed.l0 k y0 y1 y2 y3) (impl_UndoFeed.l0 (k + 1) y0 y1 y2 y3))
  | 0 => ⟨fun _ _ _ _ r h => by simp [impl_UndoFeed.j0] at h, fun _ _ _ _ r h => by simp [impl_UndoFeed.l0] at h⟩
  | k + 1 => by
    obtain ⟨ih0, ih1⟩ := impl_UndoFeed.mono_l k
    refine ⟨?_, ?_⟩
    · intro y0 y1 y2 y3
      unfold impl_UndoFeed.j0
      repeat' first
      | (with_reducible exact ih0 _ _ _ _)
      | (with_reducible exact ih1 _ _ _ _)
      | (with_reducible exact impl_FeedValid.mono _ _)
      | (with_reducible exact LeO.refl _)
      | (with_reducible exact LeO.none _)
      | (with_reducible refine LeO.ite ?_ ?_)
      | (with_reducible refine LeO.bind ?_ (fun _ => ?_))
      | exact ih0 _ _ _ _
      | exact ih1 _ _ _ _
      | exact impl_FeedValid.mono _ _
      | exact LeO.none _
      | refine LeO.ite ?_ ?_
      | refine LeO.bind ?_ (fun _ => ?_)
    · intro y0 y1 y2 y3
      unfold impl_UndoFeed.l0
      repeat' first
      | (with_reducible exact ih0 _ _ _ _)
      | (with_reducible exact ih1 _ _ _ _)
      | (with_reducible exact impl_FeedValid.mono _ _)
      | (with_reducible exact LeO.refl _)
      | (with_reducible exact LeO.none _)
      | (with_reducible refine LeO.ite ?_ ?_)
      | (with_reducible refine LeO.bind ?_ (fun _ => ?_))
      | exact ih0 _ _ _ _
      | exact ih1 _ _ _ _
      | exact impl_FeedValid.mono _ _
      | exact LeO.none _
      | refine LeO.ite ?_ ?_
      | refine LeO.bind ?_ (fun _ => ?_)
theorem impl_UndoFeed.mono : ∀ a0 a1 k, LeO (impl_UndoFeed.f k a0 a1) (impl_UndoFeed.f (k + 1) a0 a1) := by
  intro a0 a1 k
  obtain ⟨ih0, ih1⟩ := impl_UndoFeed.mono_l k
  unfold impl_UndoFeed.f
  repeat' first
      | (with_reducible exact ih0 _ _ _ _)
      | (with_reducible exact ih1 _ _ _ _)
      | (with_reducible exact impl_FeedValid.mono _ _)
      | (with_reducible exact LeO.refl _)
      | (with_reducible exact LeO.none _)
      | (with_reducible refine LeO.ite ?_ ?_)
      | (with_reducible refine LeO.bind ?_ (fun _ => ?_))
      | exact ih0 _ _ _ _
      | exact ih1 _ _ _ _
      | exact impl_FeedValid.mono _ _
      | exact LeO.none _
      | refine LeO.ite ?_ ?_
      | refine LeO.bind ?_ (fun _ => ?_)
set_option maxHeartbeats 8000000 in
set_option maxRecDepth 100000 in
theorem impl_UndoFeed.calls (k : Nat) (A0 : Option Addr) (c0 : Nat) (l0 : List (S110)) (a1 : Int) (r : List (S110)) (w : World) (hr0 : Kd.C k110 w A0 l0.length l0) (hc0 : l0.length ≤ c0) (h : impl_UndoFeed.f k l0 a1 = some r) :
    Calls Try.prog 31 #[.slice A0 l0.length c0, .int .i64 a1] w fun e w' => ∃ v0_ : Value, e = .returned (v0_) ∧ Kd.R k110 110 w' w.heap.size (fun _ => True) v0_ r ∧ Below w.heap.size w w' := by
  have hu110 := Try.underlying110
  have HR0 := Aside0.mk hr0
  have HC0 := Aside0.mk hc0
  clear hr0 hc0
  have HB := Aside0.mk (Below.refl w.heap.size w)
  have H : ((impl_FeedValid.f k l0).bind fun t164 => (if t164 = true then (if (wrap64 ((l0.length : Int) - 1)) < 0 then (impl_UndoFeed.j0 k l0 a1 (wrap64 ((l0.length : Int) - 1)) true) else (if 0 ≤ (wrap64 ((l0.length : Int) - 1)) then (if (wrap64 ((l0.length : Int) - 1)) < (l0.length : Int) then (if a1 ≤ ((rd_T110 l0 (wrap64 ((l0.length : Int) - 1))).f0) then (impl_UndoFeed.j0 k l0 a1 (wrap64 ((l0.length : Int) - 1)) true) else (impl_UndoFeed.j0 k l0 a1 (wrap64 ((l0.length : Int) - 1)) (decide (a1 > 24)))) else (none)) else (none))) else (impl_UndoFeed.j0 k l0 a1 (wrap64 ((l0.length : Int) - 1)) true))) = some r := h
  clear h
  have HC3 := Aside0.mk H
  clear H
  go_enter Try.func31, Try.ntmps31
  go_upto_region 2 with (fail)
  go_cut [31] (fun v31 wc => ∃ (kq : Nat) (x31_2 : Bool), v31 = .bool x31_2 ∧ Aside0 (impl_UndoFeed.j0 kq l0 a1 (wrap64 ((l0.length : Int) - 1)) x31_2 = some r) ∧ Aside0 (kq ≤ k) ∧ Aside0 (Below w.heap.size w wc))
  case first =>
    have H := HC3.out
    clear HC3
    replace H := Option.bind_eq_some_iff.mp H
    obtain ⟨t164, A40, H⟩ := H
    replace H : (if t164 = true then (if (wrap64 ((l0.length : Int) - 1)) < 0 then (impl_UndoFeed.j0 k l0 a1 (wrap64 ((l0.length : Int) - 1)) true) else (if 0 ≤ (wrap64 ((l0.length : Int) - 1)) then (if (wrap64 ((l0.length : Int) - 1)) < (l0.length : Int) then (if a1 ≤ ((rd_T110 l0 (wrap64 ((l0.length : Int) - 1))).f0) then (impl_UndoFeed.j0 k l0 a1 (wrap64 ((l0.length : Int) - 1)) true) else (impl_UndoFeed.j0 k l0 a1 (wrap64 ((l0.length : Int) - 1)) (decide (a1 > 24)))) else (none)) else (none))) else (impl_UndoFeed.j0 k l0 a1 (wrap64 ((l0.length : Int) - 1)) true)) = some r := H
    have A4 := Aside0.mk A40
    clear A40
    by_cases c5 : t164 = true
    · subst c5
      have H1 : (if (wrap64 ((l0.length : Int) - 1)) < 0 then (impl_UndoFeed.j0 k l0 a1 (wrap64 ((l0.length : Int) - 1)) true) else (if 0 ≤ (wrap64 ((l0.length : Int) - 1)) then (if (wrap64 ((l0.length : Int) - 1)) < (l0.length : Int) then (if a1 ≤ ((rd_T110 l0 (wrap64 ((l0.length : Int) - 1))).f0) then (impl_UndoFeed.j0 k l0 a1 (wrap64 ((l0.length : Int) - 1)) true) else (impl_UndoFeed.j0 k l0 a1 (wrap64 ((l0.length : Int) - 1)) (decide (a1 > 24)))) else (none)) else (none))) = some r := by rw [if_pos rfl] at H; exact H
      clear H
      have H := H1
      clear H1
      by_cases c6 : (wrap64 ((l0.length : Int) - 1)) < 0
      · rw [if_pos c6] at H
        have c6b0 : decide ((wrap64 ((l0.length : Int) - 1)) < 0) = true := decide_eq_true c6
        clear c6
        (first | rw [c6b0] | (simp only [i64_w, i32_w]; rw [c6b0]) | skip)
        have H' := Aside0.mk H
        clear H
        go_wp2_with (first | ((with_reducible refine gate_callee (f := 80) rfl ?_); refine gsl (some 13) rfl Try.func80 #[.slice A0 l0.length c0] rfl ?_; (with_reducible refine (impl_FeedValid.calls k _ _ l0 true _ ?side1 ?side2 A4.out).mono ?_); (case side1 => exact cc (Kd.C_below HR0.out HB.out)); (case side2 => exact HC0.out); rintro e w7 ⟨rfl, hb⟩; refine ⟨_, rfl, ?_⟩; replace HB := an0 HB hb; (try clear hb); (try clear hb2); (try clear hk); (try clear hi)))
        go_meet
        case rel => exact ⟨_, (true), (by first | rfl | (simp; done) | (simp [*]; done) | (simp [bne_nil_, beq_nil_]; done)), H', ⟨by first | omega | exact Nat.le_refl _⟩, ⟨bp HB.out⟩⟩
      · rw [if_neg c6] at H
        have c6b0 : decide ((wrap64 ((l0.length : Int) - 1)) < 0) = false := decide_eq_false c6
        clear c6
        (first | rw [c6b0] | (simp only [i64_w, i32_w]; rw [c6b0]) | skip)
        obtain ⟨ji8, hji8⟩ : ∃ j_ : Int, (wrap64 ((l0.length : Int) - 1)) = j_ := ⟨_, rfl⟩
        replace H : (if 0 ≤ (ji8) then (if (ji8) < (l0.length : Int) then (if a1 ≤ ((rd_T110 l0 (ji8)).f0) then (impl_UndoFeed.j0 k l0 a1 ji8 true) else (impl_UndoFeed.j0 k l0 a1 ji8 (decide (a1 > 24)))) else (none)) else (none)) = some r := by first | (rw [hji8] at H; exact H) | (simp only [hji8] at H ⊢; exact H)
        (try rw [hji8] at c6b0)
        (try rw [hji8] at A4)
        have hji8w : (IntKind.i64.wrap ((l0.length : Int) - 1)) = ji8 := (i64_w _).trans hji8
        by_cases c9 : 0 ≤ (ji8)
        · rw [if_pos c9] at H
          have c9b0 : decide (0 ≤ (ji8)) = true := decide_eq_true c9
          clear c9
          by_cases c10 : (ji8) < (l0.length : Int)
          · rw [if_pos c10] at H
            have c10b0 : decide ((ji8) < (l0.length : Int)) = true := decide_eq_true c10
            clear c10
            by_cases c11 : a1 ≤ ((rd_T110 l0 (ji8)).f0)
            · rw [if_pos c11] at H
              have c11b0 : decide (a1 ≤ ((rd_T110 l0 (ji8)).f0)) = true := decide_eq_true c11
              clear c11
              have H' := Aside0.mk H
              clear H
              go_wp2_with (first | ((with_reducible refine gate_callee (f := 80) rfl ?_); refine gsl (some 13) rfl Try.func80 #[.slice A0 l0.length c0] rfl ?_; (with_reducible refine (impl_FeedValid.calls k _ _ l0 true _ ?side1 ?side2 A4.out).mono ?_); (case side1 => exact cc (Kd.C_below HR0.out HB.out)); (case side2 => exact HC0.out); rintro e w12 ⟨rfl, hb⟩; refine ⟨_, rfl, ?_⟩; replace HB := an0 HB hb; (try clear hb); (try clear hb2); (try clear hk); (try clear hi); have p165 : 0 ≤ ((ji8) : Int) := of_decide_eq_true (by first | (with_reducible assumption) | assumption); have q165 : (ji8) < (l0.length : Int) := of_decide_eq_true (by first | (with_reducible assumption) | assumption); obtain ⟨ad165, e165, hx165_0, hx165_1, hx165_2, hx165_3⟩ := at_T110 HR0.out (ji8) p165 q165; cases e165; replace hx165_0 := hcx HB hx165_0; replace hx165_1 := hcx HB hx165_1; replace hx165_2 := hcx HB hx165_2; replace hx165_3 := hcx HB hx165_3; replace p165 := eq_true p165; replace q165 := eq_true q165))
              first | go_meet | ((try subst hji8); go_meet)
              case rel => exact ⟨_, (true), (by first | rfl | (simp; done) | (simp [*]; done) | (simp [bne_nil_, beq_nil_]; done)), H', ⟨by first | omega | exact Nat.le_refl _⟩, ⟨bp HB.out⟩⟩
            · rw [if_neg c11] at H
              have c11b0 : decide (a1 ≤ ((rd_T110 l0 (ji8)).f0)) = false := decide_eq_false c11
              clear c11
              have H' := Aside0.mk H
              clear H
              go_wp2_with (first | ((with_reducible refine gate_callee (f := 80) rfl ?_); refine gsl (some 13) rfl Try.func80 #[.slice A0 l0.length c0] rfl ?_; (with_reducible refine (impl_FeedValid.calls k _ _ l0 true _ ?side1 ?side2 A4.out).mono ?_); (case side1 => exact cc (Kd.C_below HR0.out HB.out)); (case side2 => exact HC0.out); rintro e w13 ⟨rfl, hb⟩; refine ⟨_, rfl, ?_⟩; replace HB := an0 HB hb; (try clear hb); (try clear hb2); (try clear hk); (try clear hi); have p165 : 0 ≤ ((ji8) : Int) := of_decide_eq_true (by first | (with_reducible assumption) | assumption); have q165 : (ji8) < (l0.length : Int) := of_decide_eq_true (by first | (with_reducible assumption) | assumption); obtain ⟨ad165, e165, hx165_0, hx165_1, hx165_2, hx165_3⟩ := at_T110 HR0.out (ji8) p165 q165; cases e165; replace hx165_0 := hcx HB hx165_0; replace hx165_1 := hcx HB hx165_1; replace hx165_2 := hcx HB hx165_2; replace hx165_3 := hcx HB hx165_3; replace p165 := eq_true p165; replace q165 := eq_true q165))
              first | go_meet | ((try subst hji8); go_meet)
              case rel => exact ⟨_, (decide (a1 > 24)), (by first | rfl | (simp; done) | (simp [*]; done) | (simp [bne_nil_, beq_nil_]; done)), H', ⟨by first | omega | exact Nat.le_refl _⟩, ⟨bp HB.out⟩⟩
          · rw [if_neg c10] at H
            exact absurd H (by simp)
        · rw [if_neg c9] at H
          exact absurd H (by simp)
    · replace c5 := Bool.eq_false_iff.mpr c5
      subst c5
      have H1 : (impl_UndoFeed.j0 k l0 a1 (wrap64 ((l0.length : Int) - 1)) true) = some r := by rw [if_neg (show ¬ (false = true) by decide)] at H; exact H
      clear H
      have H := H1
      clear H1
      have H' := Aside0.mk H
      clear H
      go_wp2_with (first | ((with_reducible refine gate_callee (f := 80) rfl ?_); refine gsl (some 13) rfl Try.func80 #[.slice A0 l0.length c0] rfl ?_; (with_reducible refine (impl_FeedValid.calls k _ _ l0 false _ ?side1 ?side2 A4.out).mono ?_); (case side1 => exact cc (Kd.C_below HR0.out HB.out)); (case side2 => exact HC0.out); rintro e w14 ⟨rfl, hb⟩; refine ⟨_, rfl, ?_⟩; replace HB := an0 HB hb; (try clear hb); (try clear hb2); (try clear hk); (try clear hi)))
      go_meet
      case rel => exact ⟨_, (true), (by first | rfl | (simp; done) | (simp [*]; done) | (simp [bne_nil_, beq_nil_]; done)), H', ⟨by first | omega | exact Nat.le_refl _⟩, ⟨bp HB.out⟩⟩
  case rest =>
    clear HC3
    try clear c1
    try clear p1
    try clear q1
    try clear hx1
    try clear p2
    try clear c3
    try clear c5
    try clear c6
    try clear c6b0
    try clear p6
    try clear c8
    try clear c9
    try clear c9b0
    try clear c10
    try clear c10b0
    try clear c11
    try clear c11b0
    try clear hx165_0
    try clear hx165_1
    try clear hx165_2
    try clear hx165_3
    try clear p165
    try clear q165
    obtain ⟨kq, x31_2, rfl, HA, HJ2, HB⟩ := hcut
    cases kq with
    | zero => exact absurd HA.out (by simp [impl_UndoFeed.j0])
    | succ kj2 =>
      have H := HA.out
      clear HA
      simp only [impl_UndoFeed.j0] at H
      by_cases c15 : x31_2 = true
      · subst c15
        have H1 : (some ([] : List (S110))) = some r := by rw [if_pos rfl] at H; exact H
        clear H
        have H := H1
        clear H1
        obtain rfl := Option.some.inj H
        go_wp2
        go_ret
        exact ⟨_, fe, by first | exact Kd.R_nil _ _ _ _ _ | exact Kd.N_nil _ _ _ _ _ | exact Kd.V_nil _ _ _ _ _ | exact Kd.Q_nil _ _ _ _ _ | exact Kd.S_nil _ _ _ _ _, bp HB.out⟩
      · replace c15 := Bool.eq_false_iff.mpr c15
        subst c15
        have H1 : (impl_UndoFeed.l0 kj2 l0 a1 ([] : List (S110)) (wrap64 ((l0.length : Int) - 1))) = some r := by rw [if_neg (show ¬ (false = true) by decide)] at H; exact H
        clear H
        have H := H1
        clear H1
        have H' := Aside0.mk H
        clear H
        go_wp2
        go_loopg [6, 7] kj2 (fun kq v6 v7 w' => ∃ (x6_2 : List (S110)) (x7_2 : Int), v7 = .int .i64 x7_2 ∧ Aside0 (impl_UndoFeed.l0 kq l0 a1 x6_2 x7_2 = some r) ∧ Aside0 (kq ≤ kj2) ∧ Aside0 (Kd.R k110 110 w' w.heap.size (fun _ => True) v6 x6_2) ∧ Aside0 (Below w.heap.size w w'))
        case atStart => exact ⟨(([] : List (S110))), ((wrap64 ((l0.length : Int) - 1))), (by first | rfl | (simp; done) | (simp [*]; done) | (simp [bne_nil_, beq_nil_]; done)), H', ⟨Nat.le_refl _⟩, ⟨by first | exact Kd.R_nil _ _ _ _ _ | exact Kd.N_nil _ _ _ _ _ | exact Kd.V_nil _ _ _ _ _ | exact Kd.Q_nil _ _ _ _ _ | exact Kd.S_nil _ _ _ _ _⟩, ⟨bp HB.out⟩⟩
        case round =>
          clear H'
          try clear c1
          try clear p1
          try clear q1
          try clear hx1
          try clear p2
          try clear c3
          try clear c5
          try clear c6
          try clear c6b0
          try clear p6
          try clear c8
          try clear c9
          try clear c9b0
          try clear c10
          try clear c10b0
          try clear c11
          try clear c11b0
          try clear c15
          try clear hx165_0
          try clear hx165_1
          try clear hx165_2
          try clear hx165_3
          try clear p1
          try clear p165
          try clear p2
          try clear p6
          try clear q1
          try clear q165
          obtain ⟨x6_2, x7_2, rfl, HA, HK2, HO_6, HB⟩ := hrel
          cases gk with
          | zero => exact absurd HA.out (by simp [impl_UndoFeed.l0])
          | succ k2 =>
            have H := HA.out
            clear HA
            simp only [impl_UndoFeed.l0] at H
            by_cases c16 : x7_2 ≥ 0
            · rw [if_pos c16] at H
              have c16b0 : decide (0 ≤ x7_2) = true := decide_eq_true c16
              clear c16
              by_cases c17 : 0 ≤ x7_2
              · rw [if_pos c17] at H
                have c17b0 : decide (0 ≤ x7_2) = true := decide_eq_true c17
                clear c17
                by_cases c18 : x7_2 < (l0.length : Int)
                · rw [if_pos c18] at H
                  have c18b0 : decide (x7_2 < (l0.length : Int)) = true := decide_eq_true c18
                  clear c18
                  by_cases c19 : x6_2.length < 3518437208883
                  · rw [if_pos c19] at H
                    have LMc19 := Aside0.mk c19
                    clear c19
                    obtain ⟨y168, hy168⟩ : ∃ y_ : List (S110), y_ = (x6_2 ++ [(⟨wrap64 ((wrap64 (a1 - 1)) - ((rd_T110 l0 x7_2).f0)), (rd_T110 l0 x7_2).f1, (rd_T110 l0 x7_2).f3, (rd_T110 l0 x7_2).f2⟩ : S110)]) := ⟨_, rfl⟩
                    replace H : (impl_UndoFeed.l0 k2 l0 a1 y168 (wrap64 (x7_2 - 1))) = some r := by first | (rw [hy168]; with_reducible exact H) | (have H2_ := (Option.bind_some _ _).symm.trans H; rw [hy168]; with_reducible exact H2_) | (have H2_ := (Option.bind_some _ _).symm.trans H; with_reducible exact H2_) | with_reducible exact H | (rw [hy168]; exact H) | exact H
                    have Ny168 := Aside0.mk hy168
                    clear hy168
                    have H' := Aside0.mk H
                    clear H
                    have p166 : 0 ≤ (x7_2 : Int) := of_decide_eq_true (by first | (with_reducible assumption) | assumption)
                    have q166 : x7_2 < (l0.length : Int) := of_decide_eq_true (by first | (with_reducible assumption) | assumption)
                    obtain ⟨ad166, e166, hx166_0, hx166_1, hx166_2, hx166_3⟩ := at_T110 HR0.out x7_2 p166 q166
                    cases e166
                    replace hx166_0 := hcx HB hx166_0
                    replace hx166_1 := hcx HB hx166_1
                    replace hx166_2 := hcx HB hx166_2
                    replace hx166_3 := hcx HB hx166_3
                    replace p166 := eq_true p166
                    replace q166 := eq_true q166
                    go_wp2_with (first | ((with_reducible refine gate_dst (N := 8) rfl ?_); refine bxe (N := 8) (cs := #[.int .i64 0, .string (⟨#[]⟩ : ByteArray), .int .i64 0, .int .i64 0]) (t := 110) ?_; intro gb167 hg w20 hbox hb; have n0_ := Aside0.mk (Kd.R_below (Kd.R_elderB (kr (HO_6.out)) gb167 (Nat.le_of_eq hg.symm)) hb); have n1_ := an0 HB hb; have n2_ := Aside0.mk (hbox); have n3_ := an2 HB hg; have n4_ := an2 HB hg; clear HO_6; clear HB; have HO_6 := n0_; have HB := n1_; have BK167 := n2_; have GW167 := n3_; have GE167 := n4_; clear n0_ n1_ n2_ n3_ n4_; clear hb hbox hg; obtain ⟨hcz21_0, hcz21_1, hcz21_2, hcz21_3, hfz21_0, hfz21_1, hfz21_2, hfz21_3⟩ := cl4 BK167) | ((with_reducible refine gate_builtin (b := .append) (xs := #[.tmp 41, .tmp 54]) rfl ?_); at_builtin; refine Kd.R_append k110 (w0 := w) w.heap.size rfl (.tmp 41) (.tmp 54) 38 110 (.agg #[(.int .i64 0), (.string ⟨#[]⟩), (.int .i64 0), (.int .i64 0)]) 40 rfl Try.underlying38 info110 rfl (by decide) (by omega) u6 x6_2 (⟨wrap64 ((wrap64 (a1 - 1)) - ((rd_T110 l0 x7_2).f0)), (rd_T110 l0 x7_2).f1, (rd_T110 l0 x7_2).f3, (rd_T110 l0 x7_2).f2⟩ : S110) [.int .i64 (wrap64 ((wrap64 (a1 - 1)) - ((rd_T110 l0 x7_2).f0))), .string ((rd_T110 l0 x7_2).f1), .int .i64 ((rd_T110 l0 x7_2).f3), .int .i64 ((rd_T110 l0 x7_2).f2)] (fun k_ => k_ ≠ gb167) (fun _ => False) rfl (by first | (go_simp; done) | (go_simp; rfl)) ?aP (fun _ hk => hk.elim) ?aF ?aO ?aB ?aS ?aL ?_; (case aP => exact k110_mkM _ _ _ (⟨wrap64 ((wrap64 (a1 - 1)) - ((rd_T110 l0 x7_2).f0)), (rd_T110 l0 x7_2).f1, (rd_T110 l0 x7_2).f3, (rd_T110 l0 x7_2).f2⟩ : S110)); (case aB => exact (bp HB.out)); (case aF => exact (fun k_ hk => Kd.freshB (g := gb167) (o := .cells #[.int .i64 ((rd_T110 l0 x7_2).f0), .string ((rd_T110 l0 x7_2).f1), .int .i64 ((rd_T110 l0 x7_2).f2), .int .i64 ((rd_T110 l0 x7_2).f3)] 110 (0, 0)) (by (with_reducible repeat (first | refine blk_drewN ?_ _ | refine blk_drew ?_ | refine blk_alloc ?_ _)); refine blk_put (cs := #[.int .i64 ((rd_T110 l0 x7_2).f0), .string ((rd_T110 l0 x7_2).f1), .int .i64 ((rd_T110 l0 x7_2).f2), .int .i64 0]) ?_ 3 _ rfl; (with_reducible repeat (first | refine blk_drewN ?_ _ | refine blk_drew ?_ | refine blk_alloc ?_ _)); refine blk_put (cs := #[.int .i64 ((rd_T110 l0 x7_2).f0), .string ((rd_T110 l0 x7_2).f1), .int .i64 0, .int .i64 0]) ?_ 2 _ rfl; (with_reducible repeat (first | refine blk_drewN ?_ _ | refine blk_drew ?_ | refine blk_alloc ?_ _)); refine blk_put (cs := #[.int .i64 ((rd_T110 l0 x7_2).f0), .string (⟨#[]⟩ : ByteArray), .int .i64 0, .int .i64 0]) ?_ 1 _ rfl; (with_reducible repeat (first | refine blk_drewN ?_ _ | refine blk_drew ?_ | refine blk_alloc ?_ _)); refine blk_put (cs := #[.int .i64 0, .string (⟨#[]⟩ : ByteArray), .int .i64 0, .int .i64 0]) ?_ 0 _ rfl; (with_reducible repeat (first | refine blk_drewN ?_ _ | refine blk_drew ?_ | refine blk_alloc ?_ _)); exact BK167.out) k_ hk)); (case aO => exact (by (with_reducible repeat (first | apply Kd.R_alloc | apply Kd.R_drewN | apply Kd.R_drew)); exact Kd.R_mono (Kd.R_far (p := ⟨gb167, 3, none⟩) (Kd.R_far (p := ⟨gb167, 2, none⟩) (Kd.R_far (p := ⟨gb167, 1, none⟩) (Kd.R_far (p := ⟨gb167, 0, none⟩) (Kd.R_mono HO_6.out (fun k_ hk => (⟨hk, hk.2⟩ : _ ∧ k_ ≠ gb167))) (fun _ hk => hk.2) (.int .i64 ((rd_T110 l0 x7_2).f0))) (fun _ hk => hk.2) (.string ((rd_T110 l0 x7_2).f1))) (fun _ hk => hk.2) (.int .i64 ((rd_T110 l0 x7_2).f2))) (fun _ hk => hk.2) (.int .i64 ((rd_T110 l0 x7_2).f3))) (fun _ hk => hk.1.2))); (case aS => exact (below_size (bp HB.out))); (case aL => have := LMc19.out; omega); intro v169 w22 ho hb hg hat; rw [← Ny168.out] at ho; have n0_ := Aside0.mk (blk_grown (g := gb167) (o := .cells #[.int .i64 ((rd_T110 l0 x7_2).f0), .string ((rd_T110 l0 x7_2).f1), .int .i64 ((rd_T110 l0 x7_2).f2), .int .i64 ((rd_T110 l0 x7_2).f3)] 110 (0, 0)) (by (with_reducible repeat (first | refine blk_drewN ?_ _ | refine blk_drew ?_ | refine blk_alloc ?_ _)); refine blk_put (cs := #[.int .i64 ((rd_T110 l0 x7_2).f0), .string ((rd_T110 l0 x7_2).f1), .int .i64 ((rd_T110 l0 x7_2).f2), .int .i64 0]) ?_ 3 _ rfl; (with_reducible repeat (first | refine blk_drewN ?_ _ | refine blk_drew ?_ | refine blk_alloc ?_ _)); refine blk_put (cs := #[.int .i64 ((rd_T110 l0 x7_2).f0), .string ((rd_T110 l0 x7_2).f1), .int .i64 0, .int .i64 0]) ?_ 2 _ rfl; (with_reducible repeat (first | refine blk_drewN ?_ _ | refine blk_drew ?_ | refine blk_alloc ?_ _)); refine blk_put (cs := #[.int .i64 ((rd_T110 l0 x7_2).f0), .string (⟨#[]⟩ : ByteArray), .int .i64 0, .int .i64 0]) ?_ 1 _ rfl; (with_reducible repeat (first | refine blk_drewN ?_ _ | refine blk_drew ?_ | refine blk_alloc ?_ _)); refine blk_put (cs := #[.int .i64 0, .string (⟨#[]⟩ : ByteArray), .int .i64 0, .int .i64 0]) ?_ 0 _ rfl; (with_reducible repeat (first | refine blk_drewN ?_ _ | refine blk_drew ?_ | refine blk_alloc ?_ _)); exact BK167.out) hg (Kd.R_away HO_6.out (fun _ hk => hk.2))); have n1_ := Aside0.mk (hb); have n2_ := Aside0.mk (ho); clear BK167; clear HB; clear HO_6; have BK167 := n0_; have HB := n1_; have HO170 := n2_; clear n0_ n1_ n2_; clear ho hb hg hat))
                    go_roundg k2
                    case measure => have := HJ2.out; have := HK2.out; omega
                    case rel => exact ⟨(y168), (wrap64 (x7_2 - 1)), (by first | rfl | (simp; done) | (simp [*]; done) | (simp [bne_nil_, beq_nil_]; done)), H', ⟨by have := HJ2.out; have := HK2.out; omega⟩, ⟨by (with_reducible repeat (first | apply Kd.R_alloc | apply Kd.R_drewN | apply Kd.R_drew)); exact Kd.R_mono HO170.out (fun _ hk => trivial)⟩, ⟨bp HB.out⟩⟩
                  · rw [if_neg c19] at H
                    exact absurd H (by simp)
                · rw [if_neg c18] at H
                  exact absurd H (by simp)
              · rw [if_neg c17] at H
                exact absurd H (by simp)
            · rw [if_neg c16] at H
              have c16b0 : decide (0 ≤ x7_2) = false := decide_eq_false c16
              clear c16
              obtain rfl := Option.some.inj H
              go_wp2
              go_ret
              exact ⟨_, fe, by (with_reducible repeat (first | apply Kd.R_alloc | apply Kd.R_drewN | apply Kd.R_drew)); exact HO_6.out, bp HB.out⟩

/-! ### laws_FnExactUndoFeed: function 6 -/
def laws_FnExactUndoFeed.j0 : Nat → List (S108) → Int → List (S110) → List (S110) → Bool → Option (Bool)
  | 0, _, _, _, _, _ => none
  | k + 1, x0, x1, x6, x8, x46 => if x46 = true then (some false) else ((laws_markChangeS.f k x8 1).bind fun bt192 => ((laws_heldChangeS.f k bt192.2 1).bind fun t194 => (if t194 < 0 then (some false) else (if t194 = bt192.1 then ((laws_toChangeS.f k x0).bind fun t195 => ((impl_UndoFeed.f k t195 x1).bind fun t198 => ((laws_eqChangeS.f k t198 x6).bind fun t201 => (if t201 = true then ((laws_heldChangeS.f k bt192.2 1).bind fun t202 => (if t202 < 0 then (some false) else (if t202 = bt192.1 then (some true) else (some false)))) else (some false))))) else (some false)))))
def laws_FnExactUndoFeed.f (k : Nat) (l0 : List (S108)) (a1 : Int) : Option (Bool) := (laws_szChangeS.f k l0 1048576).bind fun t171 => (if t171 < 0 then (some true) else ((laws_toChangeS.f k l0).bind fun t172 => ((spec_UndoFeed.f k t172 a1).bind fun t175 => ((laws_toChangeS.f k l0).bind fun t178 => ((impl_UndoFeed.f k t178 a1).bind fun t181 => ((laws_eqChangeS.f k t181 t175).bind fun t184 => (if t184 = true then ((laws_toChangeS.f k l0).bind fun t185 => ((laws_eqChangeS.f k t178 t185).bind fun t188 => (if t188 = true then ((laws_markChangeS.f k t178 1).bind fun bt189 => (if bt189.1 < 0 then (laws_FnExactUndoFeed.j0 k l0 a1 t175 t181 true) else ((laws_eqChangeS.f k t181 t175).bind fun t191 => (laws_FnExactUndoFeed.j0 k l0 a1 t175 t181 (!t191))))) else (some false)))) else (some false))))))))
theorem laws_FnExactUndoFeed.mono_l : ∀ k, (∀ y0 y1 y2 y3 y4, LeO (laws_FnExactUndoFeed.j0 k y0 y1 y2 y3 y4) (laws_FnExactUndoFeed.j0 (k + 1) y0 y1 y2 y3 y4))
  | 0 => fun _ _ _ _ _ r h => by simp [laws_FnExactUndoFeed.j0] at h
  | k + 1 => by
    have ih0 := laws_FnExactUndoFeed.mono_l k
    · intro y0 y1 y2 y3 y4
      unfold laws_FnExactUndoFeed.j0
      repeat' first
      | (with_reducible exact ih0 _ _ _ _ _)
      | (with_reducible exact impl_UndoFeed.mono _ _ _)
      | (with_reducible exact laws_eqChangeS.mono _ _ _)
      | (with_reducible exact laws_heldChangeS.mono _ _ _)
      | (with_reducible exact laws_markChangeS.mono _ _ _)
      | (with_reducible exact laws_szChangeS.mono _ _ _)
      | (with_reducible exact laws_toChangeS.mono _ _)
      | (with_reducible exact spec_UndoFeed.mono _ _ _)
      | (with_reducible exact LeO.refl _)
      | (with_reducible exact LeO.none _)
      | (with_reducible refine LeO.ite ?_ ?_)
      | (with_reducible refine LeO.bind ?_ (fun _ => ?_))
      | exact ih0 _ _ _ _ _
      | exact impl_UndoFeed.mono _ _ _
      | exact laws_eqChangeS.mono _ _ _
      | exact laws_heldChangeS.mono _ _ _
      | exact laws_markChangeS.mono _ _ _
      | exact laws_szChangeS.mono _ _ _
      | exact laws_toChangeS.mono _ _
      | exact spec_UndoFeed.mono _ _ _
      | exact LeO.none _
      | refine LeO.ite ?_ ?_
      | refine LeO.bind ?_ (fun _ => ?_)
theorem laws_FnExactUndoFeed.mono : ∀ a0 a1 k, LeO (laws_FnExactUndoFeed.f k a0 a1) (laws_FnExactUndoFeed.f (k + 1) a0 a1) := by
  intro a0 a1 k
  have ih0 := laws_FnExactUndoFeed.mono_l k
  unfold laws_FnExactUndoFeed.f
  repeat' first
      | (with_reducible exact ih0 _ _ _ _ _)
      | (with_reducible exact impl_UndoFeed.mono _ _ _)
      | (with_reducible exact laws_eqChangeS.mono _ _ _)
      | (with_reducible exact laws_heldChangeS.mono _ _ _)
      | (with_reducible exact laws_markChangeS.mono _ _ _)
      | (with_reducible exact laws_szChangeS.mono _ _ _)
      | (with_reducible exact laws_toChangeS.mono _ _)
      | (with_reducible exact spec_UndoFeed.mono _ _ _)
      | (with_reducible exact LeO.refl _)
      | (with_reducible exact LeO.none _)
      | (with_reducible refine LeO.ite ?_ ?_)
      | (with_reducible refine LeO.bind ?_ (fun _ => ?_))
      | exact ih0 _ _ _ _ _
      | exact impl_UndoFeed.mono _ _ _
      | exact laws_eqChangeS.mono _ _ _
      | exact laws_heldChangeS.mono _ _ _
      | exact laws_markChangeS.mono _ _ _
      | exact laws_szChangeS.mono _ _ _
      | exact laws_toChangeS.mono _ _
      | exact spec_UndoFeed.mono _ _ _
      | exact LeO.none _
      | refine LeO.ite ?_ ?_
      | refine LeO.bind ?_ (fun _ => ?_)
theorem laws_FnExactUndoFeed.s0 {P0 Q : Prop} (B0 : P0) (h : P0 → Q := by (intro b0_; repeat (first | exact (Kd.R_reads' b0_).2.2 | (with_reducible refine Kd.C_alloc ?_ _) | (with_reducible refine Kd.C_drewN ?_ _) | (with_reducible refine Kd.C_drew ?_)))) : Q := h B0
set_option maxHeartbeats 8000000 in
set_option maxRecDepth 100000 in
theorem laws_FnExactUndoFeed.calls (k : Nat) (A0 : Option Addr) (c0 : Nat) (l0 : List (S108)) (a1 : Int) (r : Bool) (w : World) (hr0 : Kd.C k108 w A0 l0.length l0) (hc0 : l0.length ≤ c0) (h : laws_FnExactUndoFeed.f k l0 a1 = some r) (hrt : Aside0 (r = true)) :
    Calls Try.prog 6 #[.slice A0 l0.length c0, .int .i64 a1] w fun e w' => e = .returned (.bool r) ∧ Below w.heap.size w w' := by
  have HR0 := Aside0.mk hr0
  have HC0 := Aside0.mk hc0
  clear hr0 hc0
  have HB := Aside0.mk (Below.refl w.heap.size w)
  have H : ((laws_szChangeS.f k l0 1048576).bind fun t171 => (if t171 < 0 then (some true) else ((laws_toChangeS.f k l0).bind fun t172 => ((spec_UndoFeed.f k t172 a1).bind fun t175 => ((laws_toChangeS.f k l0).bind fun t178 => ((impl_UndoFeed.f k t178 a1).bind fun t181 => ((laws_eqChangeS.f k t181 t175).bind fun t184 => (if t184 = true then ((laws_toChangeS.f k l0).bind fun t185 => ((laws_eqChangeS.f k t178 t185).bind fun t188 => (if t188 = true then ((laws_markChangeS.f k t178 1).bind fun bt189 => (if bt189.1 < 0 then (laws_FnExactUndoFeed.j0 k l0 a1 t175 t181 true) else ((laws_eqChangeS.f k t181 t175).bind fun t191 => (laws_FnExactUndoFeed.j0 k l0 a1 t175 t181 (!t191))))) else (some false)))) else (some false))))))))) = some r := h
  clear h
  replace H := Option.bind_eq_some_iff.mp H
  obtain ⟨t171, A30, H⟩ := H
  replace H : (if t171 < 0 then (some true) else ((laws_toChangeS.f k l0).bind fun t172 => ((spec_UndoFeed.f k t172 a1).bind fun t175 => ((laws_toChangeS.f k l0).bind fun t178 => ((impl_UndoFeed.f k t178 a1).bind fun t181 => ((laws_eqChangeS.f k t181 t175).bind fun t184 => (if t184 = true then ((laws_toChangeS.f k l0).bind fun t185 => ((laws_eqChangeS.f k t178 t185).bind fun t188 => (if t188 = true then ((laws_markChangeS.f k t178 1).bind fun bt189 => (if bt189.1 < 0 then (laws_FnExactUndoFeed.j0 k l0 a1 t175 t181 true) else ((laws_eqChangeS.f k t181 t175).bind fun t191 => (laws_FnExactUndoFeed.j0 k l0 a1 t175 t181 (!t191))))) else (some false)))) else (some false)))))))) = some r := H
  have A3 := Aside0.mk A30
  clear A30
  by_cases c4 : t171 < 0
  · rw [if_pos c4] at H
    have c4b0 : decide (t171 < 0) = true := decide_eq_true c4
    clear c4
    obtain rfl := Option.some.inj H
    go_enter Try.func6, Try.ntmps6
    go_wp2_with (first | ((with_reducible refine gate_callee (f := 23) rfl ?_); refine gsl (some 15) rfl Try.func23 #[.slice A0 l0.length c0, .int .i64 1048576] rfl ?_; (with_reducible refine (laws_szChangeS.calls k _ _ l0 1048576 t171 _ ?side1 ?side2 A3.out).mono ?_); (case side1 => exact cc HR0.out); (case side2 => exact HC0.out); rintro e w5 ⟨rfl, hb⟩; refine ⟨_, rfl, ?_⟩; replace HB := an0 HB hb; (try clear hb); (try clear hb2); (try clear hk); (try clear hi)))
    go_ret
    exact ⟨fe, bp HB.out⟩
  · rw [if_neg c4] at H
    have c4b0 : decide (t171 < 0) = false := decide_eq_false c4
    clear c4
    replace H := Option.bind_eq_some_iff.mp H
    obtain ⟨t172, A60, H⟩ := H
    replace H : ((spec_UndoFeed.f k t172 a1).bind fun t175 => ((laws_toChangeS.f k l0).bind fun t178 => ((impl_UndoFeed.f k t178 a1).bind fun t181 => ((laws_eqChangeS.f k t181 t175).bind fun t184 => (if t184 = true then ((laws_toChangeS.f k l0).bind fun t185 => ((laws_eqChangeS.f k t178 t185).bind fun t188 => (if t188 = true then ((laws_markChangeS.f k t178 1).bind fun bt189 => (if bt189.1 < 0 then (laws_FnExactUndoFeed.j0 k l0 a1 t175 t181 true) else ((laws_eqChangeS.f k t181 t175).bind fun t191 => (laws_FnExactUndoFeed.j0 k l0 a1 t175 t181 (!t191))))) else (some false)))) else (some false)))))) = some r := H
    have A6 := Aside0.mk A60
    clear A60
    replace H := Option.bind_eq_some_iff.mp H
    obtain ⟨t175, A70, H⟩ := H
    replace H : ((laws_toChangeS.f k l0).bind fun t178 => ((impl_UndoFeed.f k t178 a1).bind fun t181 => ((laws_eqChangeS.f k t181 t175).bind fun t184 => (if t184 = true then ((laws_toChangeS.f k l0).bind fun t185 => ((laws_eqChangeS.f k t178 t185).bind fun t188 => (if t188 = true then ((laws_markChangeS.f k t178 1).bind fun bt189 => (if bt189.1 < 0 then (laws_FnExactUndoFeed.j0 k l0 a1 t175 t181 true) else ((laws_eqChangeS.f k t181 t175).bind fun t191 => (laws_FnExactUndoFeed.j0 k l0 a1 t175 t181 (!t191))))) else (some false)))) else (some false))))) = some r := H
    have A7 := Aside0.mk A70
    clear A70
    replace H := Option.bind_eq_some_iff.mp H
    obtain ⟨t178, A80, H⟩ := H
    replace H : ((impl_UndoFeed.f k t178 a1).bind fun t181 => ((laws_eqChangeS.f k t181 t175).bind fun t184 => (if t184 = true then ((laws_toChangeS.f k l0).bind fun t185 => ((laws_eqChangeS.f k t178 t185).bind fun t188 => (if t188 = true then ((laws_markChangeS.f k t178 1).bind fun bt189 => (if bt189.1 < 0 then (laws_FnExactUndoFeed.j0 k l0 a1 t175 t181 true) else ((laws_eqChangeS.f k t181 t175).bind fun t191 => (laws_FnExactUndoFeed.j0 k l0 a1 t175 t181 (!t191))))) else (some false)))) else (some false)))) = some r := H
    have A8 := Aside0.mk A80
    clear A80
    replace H := Option.bind_eq_some_iff.mp H
    obtain ⟨t181, A90, H⟩ := H
    replace H : ((laws_eqChangeS.f k t181 t175).bind fun t184 => (if t184 = true then ((laws_toChangeS.f k l0).bind fun t185 => ((laws_eqChangeS.f k t178 t185).bind fun t188 => (if t188 = true then ((laws_markChangeS.f k t178 1).bind fun bt189 => (if bt189.1 < 0 then (laws_FnExactUndoFeed.j0 k l0 a1 t175 t181 true) else ((laws_eqChangeS.f k t181 t175).bind fun t191 => (laws_FnExactUndoFeed.j0 k l0 a1 t175 t181 (!t191))))) else (some false)))) else (some false))) = some r := H
    have A9 := Aside0.mk A90
    clear A90
    replace H := Option.bind_eq_some_iff.mp H
    obtain ⟨t184, A100, H⟩ := H
    replace H : (if t184 = true then ((laws_toChangeS.f k l0).bind fun t185 => ((laws_eqChangeS.f k t178 t185).bind fun t188 => (if t188 = true then ((laws_markChangeS.f k t178 1).bind fun bt189 => (if bt189.1 < 0 then (laws_FnExactUndoFeed.j0 k l0 a1 t175 t181 true) else ((laws_eqChangeS.f k t181 t175).bind fun t191 => (laws_FnExactUndoFeed.j0 k l0 a1 t175 t181 (!t191))))) else (some false)))) else (some false)) = some r := H
    have A10 := Aside0.mk A100
    clear A100
    by_cases c11 : t184 = true
    · subst c11
      have H1 : ((laws_toChangeS.f k l0).bind fun t185 => ((laws_eqChangeS.f k t178 t185).bind fun t188 => (if t188 = true then ((laws_markChangeS.f k t178 1).bind fun bt189 => (if bt189.1 < 0 then (laws_FnExactUndoFeed.j0 k l0 a1 t175 t181 true) else ((laws_eqChangeS.f k t181 t175).bind fun t191 => (laws_FnExactUndoFeed.j0 k l0 a1 t175 t181 (!t191))))) else (some false)))) = some r := by rw [if_pos rfl] at H; exact H
      clear H
      have H := H1
      clear H1
      replace H := Option.bind_eq_some_iff.mp H
      obtain ⟨t185, A120, H⟩ := H
      replace H : ((laws_eqChangeS.f k t178 t185).bind fun t188 => (if t188 = true then ((laws_markChangeS.f k t178 1).bind fun bt189 => (if bt189.1 < 0 then (laws_FnExactUndoFeed.j0 k l0 a1 t175 t181 true) else ((laws_eqChangeS.f k t181 t175).bind fun t191 => (laws_FnExactUndoFeed.j0 k l0 a1 t175 t181 (!t191))))) else (some false))) = some r := H
      have A12 := Aside0.mk A120
      clear A120
      replace H := Option.bind_eq_some_iff.mp H
      obtain ⟨t188, A130, H⟩ := H
      replace H : (if t188 = true then ((laws_markChangeS.f k t178 1).bind fun bt189 => (if bt189.1 < 0 then (laws_FnExactUndoFeed.j0 k l0 a1 t175 t181 true) else ((laws_eqChangeS.f k t181 t175).bind fun t191 => (laws_FnExactUndoFeed.j0 k l0 a1 t175 t181 (!t191))))) else (some false)) = some r := H
      have A13 := Aside0.mk A130
      clear A130
      by_cases c14 : t188 = true
      · subst c14
        have H1 : ((laws_markChangeS.f k t178 1).bind fun bt189 => (if bt189.1 < 0 then (laws_FnExactUndoFeed.j0 k l0 a1 t175 t181 true) else ((laws_eqChangeS.f k t181 t175).bind fun t191 => (laws_FnExactUndoFeed.j0 k l0 a1 t175 t181 (!t191))))) = some r := by rw [if_pos rfl] at H; exact H
        clear H
        have H := H1
        clear H1
        replace H := Option.bind_eq_some_iff.mp H
        obtain ⟨⟨t189, t190⟩, A150, H⟩ := H
        replace H : (if t189 < 0 then (laws_FnExactUndoFeed.j0 k l0 a1 t175 t181 true) else ((laws_eqChangeS.f k t181 t175).bind fun t191 => (laws_FnExactUndoFeed.j0 k l0 a1 t175 t181 (!t191)))) = some r := H
        have A15 := Aside0.mk A150
        clear A150
        have HC16 := Aside0.mk H
        clear H
        go_enter Try.func6, Try.ntmps6
        go_upto_region 14 with (first | ((with_reducible refine gate_callee (f := 23) rfl ?_); refine gsl (some 15) rfl Try.func23 #[.slice A0 l0.length c0, .int .i64 1048576] rfl ?_; (with_reducible refine (laws_szChangeS.calls k _ _ l0 1048576 t171 _ ?side1 ?side2 A3.out).mono ?_); (case side1 => exact cc HR0.out); (case side2 => exact HC0.out); rintro e w17 ⟨rfl, hb⟩; refine ⟨_, rfl, ?_⟩; replace HB := an0 HB hb; (try clear hb); (try clear hb2); (try clear hk); (try clear hi)) | ((with_reducible refine gate_callee (f := 25) rfl ?_); refine gsl (some 19) rfl Try.func25 #[.slice A0 l0.length c0] rfl ?_; (with_reducible refine (laws_toChangeS.calls k _ _ l0 t172 _ ?side1 ?side2 A6.out).mono ?_); (case side1 => exact cc (Kd.C_below HR0.out HB.out)); (case side2 => exact HC0.out); rintro e w18 ⟨v173, rfl, ho0, hb⟩; refine ⟨_, rfl, ?_⟩; have n0_ := Aside0.mk (Kd.R_lower ho0 (below_size (bp HB.out))); have n1_ := an0 HB hb; clear HB; have HO174 := n0_; have HB := n1_; clear n0_ n1_; (try clear hb); (try clear hb2); (try clear hk); (try clear hi); (try clear ho0); obtain ⟨Ao19, co19, eo19⟩ := Kd.R_slice HO174.out; subst eo19) | ((with_reducible refine gate_callee (f := 30) rfl ?_); refine gsl (some 21) rfl Try.func30 #[.slice Ao19 t172.length co19, .int .i64 a1] rfl ?_; (with_reducible refine (spec_UndoFeed.calls k _ _ t172 a1 t175 _ ?side1 ?side2 A7.out).mono ?_); (case side1 => exact laws_FnExactUndoFeed.s0 HO174.out); (case side2 => exact (Kd.R_reads' HO174.out).2.1); rintro e w20 ⟨v176, rfl, ho0, hb⟩; refine ⟨_, rfl, ?_⟩; have n0_ := Aside0.mk (Kd.R_elder' (kr (HO174.out)) (Kd.R_base ho0) hb); have n1_ := Aside0.mk (Kd.R_lower (Kd.R_new' ho0 (Kd.R_lt (kr (HO174.out)))) (below_size (bp HB.out))); have n2_ := an0 HB hb; clear HO174; clear HB; have HO174 := n0_; have HO177 := n1_; have HB := n2_; clear n0_ n1_ n2_; (try clear hb); (try clear hb2); (try clear hk); (try clear hi); (try clear ho0)) | ((with_reducible refine gate_callee (f := 25) rfl ?_); refine gsl (some 23) rfl Try.func25 #[.slice A0 l0.length c0] rfl ?_; (with_reducible refine (laws_toChangeS.calls k _ _ l0 t178 _ ?side1 ?side2 A8.out).mono ?_); (case side1 => exact cc (Kd.C_below HR0.out HB.out)); (case side2 => exact HC0.out); rintro e w21 ⟨v179, rfl, ho0, hb⟩; refine ⟨_, rfl, ?_⟩; have n0_ := Aside0.mk (Kd.R_elder' (kr (HO174.out)) (Kd.R_base ho0) hb); have n1_ := Aside0.mk (Kd.R_elder' (kr (HO177.out)) (Kd.R_base ho0) hb); have n2_ := Aside0.mk (Kd.R_lower (Kd.R_new' (Kd.R_new' ho0 (Kd.R_lt (kr (HO174.out)))) (Kd.R_lt (kr (HO177.out)))) (below_size (bp HB.out))); have n3_ := an0 HB hb; clear HO174; clear HO177; clear HB; have HO174 := n0_; have HO177 := n1_; have HO180 := n2_; have HB := n3_; clear n0_ n1_ n2_ n3_; (try clear hb); (try clear hb2); (try clear hk); (try clear hi); (try clear ho0); obtain ⟨Ao22, co22, eo22⟩ := Kd.R_slice HO180.out; subst eo22) | ((with_reducible refine gate_callee (f := 31) rfl ?_); refine gsl (some 26) rfl Try.func31 #[.slice Ao22 t178.length co22, .int .i64 a1] rfl ?_; (with_reducible refine (impl_UndoFeed.calls k _ _ t178 a1 t181 _ ?side1 ?side2 A9.out).mono ?_); (case side1 => exact laws_FnExactUndoFeed.s0 HO180.out); (case side2 => exact (Kd.R_reads' HO180.out).2.1); rintro e w23 ⟨v182, rfl, ho0, hb⟩; refine ⟨_, rfl, ?_⟩; have n0_ := Aside0.mk (Kd.R_elder' (kr (HO174.out)) (Kd.R_base ho0) hb); have n1_ := Aside0.mk (Kd.R_elder' (kr (HO177.out)) (Kd.R_base ho0) hb); have n2_ := Aside0.mk (Kd.R_elder' (kr (HO180.out)) (Kd.R_base ho0) hb); have n3_ := Aside0.mk (Kd.R_lower (Kd.R_new' (Kd.R_new' (Kd.R_new' ho0 (Kd.R_lt (kr (HO174.out)))) (Kd.R_lt (kr (HO177.out)))) (Kd.R_lt (kr (HO180.out)))) (below_size (bp HB.out))); have n4_ := an0 HB hb; clear HO174; clear HO177; clear HO180; clear HB; have HO174 := n0_; have HO177 := n1_; have HO180 := n2_; have HO183 := n3_; have HB := n4_; clear n0_ n1_ n2_ n3_ n4_; (try clear hb); (try clear hb2); (try clear hk); (try clear hi); (try clear ho0); obtain ⟨Ao24, co24, eo24⟩ := Kd.R_slice HO183.out; subst eo24; obtain ⟨Ao25, co25, eo25⟩ := Kd.R_slice HO177.out; subst eo25) | ((with_reducible refine gate_callee (f := 27) rfl ?_); refine gsl (some 29) rfl Try.func27 #[.slice Ao24 t181.length co24, .slice Ao25 t175.length co25] rfl ?_; (with_reducible refine (laws_eqChangeS.calls k _ _ t181 _ _ t175 true _ ?side1 ?side2 ?side3 ?side4 A10.out).mono ?_); (case side1 => exact laws_FnExactUndoFeed.s0 HO183.out); (case side2 => exact (Kd.R_reads' HO183.out).2.1); (case side3 => exact laws_FnExactUndoFeed.s0 HO177.out); (case side4 => exact (Kd.R_reads' HO177.out).2.1); rintro e w26 ⟨rfl, hb⟩; refine ⟨_, rfl, ?_⟩; have n0_ := Aside0.mk (Kd.R_below (kr (HO174.out)) hb); have n1_ := Aside0.mk (Kd.R_below (kr (HO177.out)) hb); have n2_ := Aside0.mk (Kd.R_below (kr (HO180.out)) hb); have n3_ := Aside0.mk (Kd.R_below (kr (HO183.out)) hb); have n4_ := an0 HB hb; clear HO174; clear HO177; clear HO180; clear HO183; clear HB; have HO174 := n0_; have HO177 := n1_; have HO180 := n2_; have HO183 := n3_; have HB := n4_; clear n0_ n1_ n2_ n3_ n4_; (try clear hb); (try clear hb2); (try clear hk); (try clear hi)) | ((with_reducible refine gate_callee (f := 25) rfl ?_); refine gsl (some 33) rfl Try.func25 #[.slice A0 l0.length c0] rfl ?_; (with_reducible refine (laws_toChangeS.calls k _ _ l0 t185 _ ?side1 ?side2 A12.out).mono ?_); (case side1 => exact cc (Kd.C_below HR0.out HB.out)); (case side2 => exact HC0.out); rintro e w27 ⟨v186, rfl, ho0, hb⟩; refine ⟨_, rfl, ?_⟩; have n0_ := Aside0.mk (Kd.R_elder' (kr (HO174.out)) (Kd.R_base ho0) hb); have n1_ := Aside0.mk (Kd.R_elder' (kr (HO177.out)) (Kd.R_base ho0) hb); have n2_ := Aside0.mk (Kd.R_elder' (kr (HO180.out)) (Kd.R_base ho0) hb); have n3_ := Aside0.mk (Kd.R_elder' (kr (HO183.out)) (Kd.R_base ho0) hb); have n4_ := Aside0.mk (Kd.R_lower (Kd.R_new' (Kd.R_new' (Kd.R_new' (Kd.R_new' ho0 (Kd.R_lt (kr (HO174.out)))) (Kd.R_lt (kr (HO177.out)))) (Kd.R_lt (kr (HO180.out)))) (Kd.R_lt (kr (HO183.out)))) (below_size (bp HB.out))); have n5_ := an0 HB hb; clear HO174; clear HO177; clear HO180; clear HO183; clear HB; have HO174 := n0_; have HO177 := n1_; have HO180 := n2_; have HO183 := n3_; have HO187 := n4_; have HB := n5_; clear n0_ n1_ n2_ n3_ n4_ n5_; (try clear hb); (try clear hb2); (try clear hk); (try clear hi); (try clear ho0); obtain ⟨Ao28, co28, eo28⟩ := Kd.R_slice HO187.out; subst eo28) | ((with_reducible refine gate_callee (f := 27) rfl ?_); refine gsl (some 34) rfl Try.func27 #[.slice Ao22 t178.length co22, .slice Ao28 t185.length co28] rfl ?_; (with_reducible refine (laws_eqChangeS.calls k _ _ t178 _ _ t185 true _ ?side1 ?side2 ?side3 ?side4 A13.out).mono ?_); (case side1 => exact laws_FnExactUndoFeed.s0 HO180.out); (case side2 => exact (Kd.R_reads' HO180.out).2.1); (case side3 => exact laws_FnExactUndoFeed.s0 HO187.out); (case side4 => exact (Kd.R_reads' HO187.out).2.1); rintro e w29 ⟨rfl, hb⟩; refine ⟨_, rfl, ?_⟩; have n0_ := Aside0.mk (Kd.R_below (kr (HO174.out)) hb); have n1_ := Aside0.mk (Kd.R_below (kr (HO177.out)) hb); have n2_ := Aside0.mk (Kd.R_below (kr (HO180.out)) hb); have n3_ := Aside0.mk (Kd.R_below (kr (HO183.out)) hb); have n4_ := Aside0.mk (Kd.R_below (kr (HO187.out)) hb); have n5_ := an0 HB hb; clear HO174; clear HO177; clear HO180; clear HO183; clear HO187; clear HB; have HO174 := n0_; have HO177 := n1_; have HO180 := n2_; have HO183 := n3_; have HO187 := n4_; have HB := n5_; clear n0_ n1_ n2_ n3_ n4_ n5_; (try clear hb); (try clear hb2); (try clear hk); (try clear hi)) | ((with_reducible refine gate_callee (f := 28) rfl ?_); refine gsl (some 38) rfl Try.func28 #[.slice Ao22 t178.length co22, .int .i64 1] rfl ?_; (with_reducible refine (laws_markChangeS.calls k (fun k_ => some k_ = (.slice Ao22 t178.length co22 : Value).ownBlock) (.slice Ao22 t178.length co22) t178 1 t189 t190 w _ ?side1 ?side2 A15.out).mono ?_); (case side1 => repeat (first | (with_reducible first | exact HB.out | apply below_alloc | apply pw_below_drewN | apply below_drew1) | exact HB.out)); (case side2 => exact Kd.R_tight rfl HO180.out); rintro e w30 ⟨rfl, hy0, hb, hkp⟩; refine ⟨_, rfl, ?_⟩; have n0_ := Aside0.mk (Kd.R_mono (ok' := fun k_ => some k_ ≠ (.slice Ao25 t175.length co25 : Value).ownBlock ∧ some k_ ≠ (.slice Ao22 t178.length co22 : Value).ownBlock ∧ some k_ ≠ (.slice Ao24 t181.length co24 : Value).ownBlock ∧ some k_ ≠ (.slice Ao28 t185.length co28 : Value).ownBlock) (Kd.R_keptB (HO174.out) hkp (fun k_ hk_ hs_ => (hk_.1.1.2) hs_)) (fun k_ hk_ => ⟨hk_.1.1.1.1.2, hk_.1.1.1.2, hk_.1.1.2, hk_.1.2⟩)); have n1_ := Aside0.mk (Kd.R_mono (ok' := fun k_ => some k_ ≠ (.slice Ao19 t172.length co19 : Value).ownBlock ∧ some k_ ≠ (.slice Ao22 t178.length co22 : Value).ownBlock ∧ some k_ ≠ (.slice Ao24 t181.length co24 : Value).ownBlock ∧ some k_ ≠ (.slice Ao28 t185.length co28 : Value).ownBlock) (Kd.R_keptB (HO177.out) hkp (fun k_ hk_ hs_ => (hk_.1.1.2) hs_)) (fun k_ hk_ => ⟨hk_.1.1.1.1.2, hk_.1.1.1.2, hk_.1.1.2, hk_.1.2⟩)); have n2_ := Aside0.mk (Kd.R_reok rfl hy0 (fun k_ e_ => HO180.out.1 k_ e_)); have n3_ := Aside0.mk (Kd.R_mono (ok' := fun k_ => some k_ ≠ (.slice Ao19 t172.length co19 : Value).ownBlock ∧ some k_ ≠ (.slice Ao25 t175.length co25 : Value).ownBlock ∧ some k_ ≠ (.slice Ao22 t178.length co22 : Value).ownBlock ∧ some k_ ≠ (.slice Ao28 t185.length co28 : Value).ownBlock) (Kd.R_keptB (HO183.out) hkp (fun k_ hk_ hs_ => (hk_.1.2) hs_)) (fun k_ hk_ => ⟨hk_.1.1.1.1.2, hk_.1.1.1.2, hk_.1.1.2, hk_.1.2⟩)); have n4_ := Aside0.mk (Kd.R_mono (ok' := fun k_ => some k_ ≠ (.slice Ao19 t172.length co19 : Value).ownBlock ∧ some k_ ≠ (.slice Ao25 t175.length co25 : Value).ownBlock ∧ some k_ ≠ (.slice Ao22 t178.length co22 : Value).ownBlock ∧ some k_ ≠ (.slice Ao24 t181.length co24 : Value).ownBlock) (Kd.R_keptB (HO187.out) hkp (fun k_ hk_ hs_ => (hk_.1.2) hs_)) (fun k_ hk_ => ⟨hk_.1.1.1.1.2, hk_.1.1.1.2, hk_.1.1.2, hk_.1.2⟩)); have n5_ := Aside0.mk (hb); clear HO174; clear HO177; clear HO180; clear HO183; clear HO187; clear HB; have HO174 := n0_; have HO177 := n1_; have HO180 := n2_; have HO183 := n3_; have HO187 := n4_; have HB := n5_; clear n0_ n1_ n2_ n3_ n4_ n5_; (try clear hb); (try clear hkp); (try clear hy0)))
        (try simp only [Act.put, List.setIfInBounds_toArray, List.set_cons_zero, List.set_cons_succ])
        go_cut [46] (fun v46 wc => ∃ (kq : Nat) (x46_15 : Bool), v46 = .bool x46_15 ∧ Aside0 (laws_FnExactUndoFeed.j0 kq l0 a1 t175 t181 x46_15 = some r) ∧ Aside0 (kq ≤ k) ∧ Aside0 (Kd.R k110 110 wc w.heap.size (fun k_ => some k_ ≠ ((.slice Ao24 t181.length co24) : Value).ownBlock) (.slice Ao25 t175.length co25) t175) ∧ Aside0 (Kd.R k110 110 wc w.heap.size (fun k_ => some k_ ≠ ((.slice Ao25 t175.length co25) : Value).ownBlock) (.slice Ao24 t181.length co24) t181) ∧ Aside0 (Below w.heap.size w wc))
        case first =>
          have H := HC16.out
          clear HC16
          by_cases c31 : t189 < 0
          · rw [if_pos c31] at H
            have c31b0 : decide (t189 < 0) = true := decide_eq_true c31
            clear c31
            (first | rw [c31b0] | (simp only [i64_w, i32_w]; rw [c31b0]) | skip)
            have H' := Aside0.mk H
            clear H
            go_wp2
            go_meet
            case rel => exact ⟨_, (true), (by first | rfl | (simp; done) | (simp [*]; done) | (simp [bne_nil_, beq_nil_]; done)), H', ⟨by first | omega | exact Nat.le_refl _⟩, ⟨by (with_reducible repeat (first | apply Kd.R_alloc | apply Kd.R_drewN | apply Kd.R_drew)); exact Kd.R_mono HO177.out (fun _ hk => hk.2.2.1)⟩, ⟨by (with_reducible repeat (first | apply Kd.R_alloc | apply Kd.R_drewN | apply Kd.R_drew)); exact Kd.R_mono HO183.out (fun _ hk => hk.2.1)⟩, ⟨bp HB.out⟩⟩
          · rw [if_neg c31] at H
            have c31b0 : decide (t189 < 0) = false := decide_eq_false c31
            clear c31
            (first | rw [c31b0] | (simp only [i64_w, i32_w]; rw [c31b0]) | skip)
            replace H := Option.bind_eq_some_iff.mp H
            obtain ⟨t191, A320, H⟩ := H
            replace H : (laws_FnExactUndoFeed.j0 k l0 a1 t175 t181 (!t191)) = some r := H
            have A32 := Aside0.mk A320
            clear A320
            have H' := Aside0.mk H
            clear H
            go_wp2_with (first | (go_at_call 27; (with_reducible refine (laws_eqChangeS.calls k _ _ t181 _ _ t175 t191 _ ?side1 ?side2 ?side3 ?side4 A32.out).mono ?_); (case side1 => exact laws_FnExactUndoFeed.s0 HO183.out); (case side2 => exact (Kd.R_reads' HO183.out).2.1); (case side3 => exact laws_FnExactUndoFeed.s0 HO177.out); (case side4 => exact (Kd.R_reads' HO177.out).2.1); rintro e w33 ⟨rfl, hb⟩; have n0_ := Aside0.mk (Kd.R_below (kr (HO174.out)) hb); have n1_ := Aside0.mk (Kd.R_below (kr (HO177.out)) hb); have n2_ := Aside0.mk (Kd.R_below (kr (HO180.out)) hb); have n3_ := Aside0.mk (Kd.R_below (kr (HO183.out)) hb); have n4_ := Aside0.mk (Kd.R_below (kr (HO187.out)) hb); have n5_ := an0 HB hb; clear HO174; clear HO177; clear HO180; clear HO183; clear HO187; clear HB; have HO174 := n0_; have HO177 := n1_; have HO180 := n2_; have HO183 := n3_; have HO187 := n4_; have HB := n5_; clear n0_ n1_ n2_ n3_ n4_ n5_; (try clear hb); (try clear hb2); (try clear hk); (try clear hi)))
            go_meet
            case rel => exact ⟨_, (!t191), (by first | rfl | (simp; done) | (simp [*]; done) | (simp [bne_nil_, beq_nil_]; done)), H', ⟨by first | omega | exact Nat.le_refl _⟩, ⟨by (with_reducible repeat (first | apply Kd.R_alloc | apply Kd.R_drewN | apply Kd.R_drew)); exact Kd.R_mono HO177.out (fun _ hk => hk.2.2.1)⟩, ⟨by (with_reducible repeat (first | apply Kd.R_alloc | apply Kd.R_drewN | apply Kd.R_drew)); exact Kd.R_mono HO183.out (fun _ hk => hk.2.1)⟩, ⟨bp HB.out⟩⟩
        case rest =>
          clear HC16
          try clear c1
          try clear c2
          try clear p2
          try clear c3
          try clear c4
          try clear c4b0
          try clear c6
          try clear p6
          try clear c11
          try clear c14
          try clear c23
          try clear c25
          try clear c27
          try clear c28
          try clear c30
          try clear c31
          try clear c31b0
          obtain ⟨kq, x46_15, rfl, HA, HJ15, HO_6, HO_8, HB⟩ := hcut
          cases kq with
          | zero => exact absurd HA.out (by simp [laws_FnExactUndoFeed.j0])
          | succ kj15 =>
            have H := HA.out
            clear HA
            simp only [laws_FnExactUndoFeed.j0] at H
            by_cases c34 : x46_15 = true
            · subst c34
              have H1 : (some false) = some r := by rw [if_pos rfl] at H; exact H
              clear H
              have H := H1
              clear H1
              obtain rfl := Option.some.inj H
              exact absurd hrt.out (by simp)
            · replace c34 := Bool.eq_false_iff.mpr c34
              subst c34
              have H1 : ((laws_markChangeS.f kj15 t181 1).bind fun bt192 => ((laws_heldChangeS.f kj15 bt192.2 1).bind fun t194 => (if t194 < 0 then (some false) else (if t194 = bt192.1 then ((laws_toChangeS.f kj15 l0).bind fun t195 => ((impl_UndoFeed.f kj15 t195 a1).bind fun t198 => ((laws_eqChangeS.f kj15 t198 t175).bind fun t201 => (if t201 = true then ((laws_heldChangeS.f kj15 bt192.2 1).bind fun t202 => (if t202 < 0 then (some false) else (if t202 = bt192.1 then (some true) else (some false)))) else (some false))))) else (some false))))) = some r := by rw [if_neg (show ¬ (false = true) by decide)] at H; exact H
              clear H
              have H := H1
              clear H1
              replace H := Option.bind_eq_some_iff.mp H
              obtain ⟨⟨t192, t193⟩, A350, H⟩ := H
              replace H : ((laws_heldChangeS.f kj15 t193 1).bind fun t194 => (if t194 < 0 then (some false) else (if t194 = t192 then ((laws_toChangeS.f kj15 l0).bind fun t195 => ((impl_UndoFeed.f kj15 t195 a1).bind fun t198 => ((laws_eqChangeS.f kj15 t198 t175).bind fun t201 => (if t201 = true then ((laws_heldChangeS.f kj15 t193 1).bind fun t202 => (if t202 < 0 then (some false) else (if t202 = t192 then (some true) else (some false)))) else (some false))))) else (some false)))) = some r := H
              have A35 := Aside0.mk A350
              clear A350
              replace H := Option.bind_eq_some_iff.mp H
              obtain ⟨t194, A360, H⟩ := H
              replace H : (if t194 < 0 then (some false) else (if t194 = t192 then ((laws_toChangeS.f kj15 l0).bind fun t195 => ((impl_UndoFeed.f kj15 t195 a1).bind fun t198 => ((laws_eqChangeS.f kj15 t198 t175).bind fun t201 => (if t201 = true then ((laws_heldChangeS.f kj15 t193 1).bind fun t202 => (if t202 < 0 then (some false) else (if t202 = t192 then (some true) else (some false)))) else (some false))))) else (some false))) = some r := H
              have A36 := Aside0.mk A360
              clear A360
              by_cases c37 : t194 < 0
              · rw [if_pos c37] at H
                have c37b0 : decide (t194 < 0) = true := decide_eq_true c37
                clear c37
                obtain rfl := Option.some.inj H
                exact absurd hrt.out (by simp)
              · rw [if_neg c37] at H
                have c37b0 : decide (t194 < 0) = false := decide_eq_false c37
                clear c37
                by_cases c38 : t194 = t192
                · rw [if_pos c38] at H
                  have c38b0 : (t194 == t192) = true := beq_iff_eq.mpr c38
                  have c38b1 : (t194 != t192) = false := bne_eq_false_iff_eq.mpr c38
                  clear c38
                  replace H := Option.bind_eq_some_iff.mp H
                  obtain ⟨t195, A390, H⟩ := H
                  replace H : ((impl_UndoFeed.f kj15 t195 a1).bind fun t198 => ((laws_eqChangeS.f kj15 t198 t175).bind fun t201 => (if t201 = true then ((laws_heldChangeS.f kj15 t193 1).bind fun t202 => (if t202 < 0 then (some false) else (if t202 = t192 then (some true) else (some false)))) else (some false)))) = some r := H
                  have A39 := Aside0.mk A390
                  clear A390
                  replace H := Option.bind_eq_some_iff.mp H
                  obtain ⟨t198, A400, H⟩ := H
                  replace H : ((laws_eqChangeS.f kj15 t198 t175).bind fun t201 => (if t201 = true then ((laws_heldChangeS.f kj15 t193 1).bind fun t202 => (if t202 < 0 then (some false) else (if t202 = t192 then (some true) else (some false)))) else (some false))) = some r := H
                  have A40 := Aside0.mk A400
                  clear A400
                  replace H := Option.bind_eq_some_iff.mp H
                  obtain ⟨t201, A410, H⟩ := H
                  replace H : (if t201 = true then ((laws_heldChangeS.f kj15 t193 1).bind fun t202 => (if t202 < 0 then (some false) else (if t202 = t192 then (some true) else (some false)))) else (some false)) = some r := H
                  have A41 := Aside0.mk A410
                  clear A410
                  by_cases c42 : t201 = true
                  · subst c42
                    have H1 : ((laws_heldChangeS.f kj15 t193 1).bind fun t202 => (if t202 < 0 then (some false) else (if t202 = t192 then (some true) else (some false)))) = some r := by rw [if_pos rfl] at H; exact H
                    clear H
                    have H := H1
                    clear H1
                    replace H := Option.bind_eq_some_iff.mp H
                    obtain ⟨t202, A430, H⟩ := H
                    replace H : (if t202 < 0 then (some false) else (if t202 = t192 then (some true) else (some false))) = some r := H
                    have A43 := Aside0.mk A430
                    clear A430
                    by_cases c44 : t202 < 0
                    · rw [if_pos c44] at H
                      have c44b0 : decide (t202 < 0) = true := decide_eq_true c44
                      clear c44
                      obtain rfl := Option.some.inj H
                      exact absurd hrt.out (by simp)
                    · rw [if_neg c44] at H
                      have c44b0 : decide (t202 < 0) = false := decide_eq_false c44
                      clear c44
                      by_cases c45 : t202 = t192
                      · rw [if_pos c45] at H
                        have c45b0 : (t202 == t192) = true := beq_iff_eq.mpr c45
                        have c45b1 : (t202 != t192) = false := bne_eq_false_iff_eq.mpr c45
                        clear c45
                        obtain rfl := Option.some.inj H
                        go_wp2_with (first | ((with_reducible refine gate_callee (f := 28) rfl ?_); refine gsl (some 49) rfl Try.func28 #[.slice Ao24 t181.length co24, .int .i64 1] rfl ?_; (with_reducible refine (laws_markChangeS.calls kj15 (fun k_ => some k_ = (.slice Ao24 t181.length co24 : Value).ownBlock) (.slice Ao24 t181.length co24) t181 1 t192 t193 w _ ?side1 ?side2 A35.out).mono ?_); (case side1 => repeat (first | (with_reducible first | exact HB.out | apply below_alloc | apply pw_below_drewN | apply below_drew1) | exact HB.out)); (case side2 => exact Kd.R_tight rfl HO_8.out); rintro e w46 ⟨rfl, hy0, hb, hkp⟩; refine ⟨_, rfl, ?_⟩; have n0_ := Aside0.mk (Kd.R_mono (ok' := fun k_ => some k_ ≠ (.slice Ao24 t181.length co24 : Value).ownBlock) (Kd.R_keptB (HO_6.out) hkp (fun k_ hk_ hs_ => (hk_) hs_)) (fun k_ hk_ => hk_.1)); have n1_ := Aside0.mk (Kd.R_reok rfl hy0 (fun k_ e_ => HO_8.out.1 k_ e_)); have n2_ := Aside0.mk (hb); clear HO_6; clear HO_8; clear HB; have HO_6 := n0_; have HO_8 := n1_; have HB := n2_; clear n0_ n1_ n2_; (try clear hb); (try clear hkp); (try clear hy0)) | ((with_reducible refine gate_callee (f := 29) rfl ?_); refine goesL_ (some 52) rfl rfl Try.func29 (by kernel_rfl) rfl #[.slice Ao24 t193.length co24, .int .i64 1] rfl (by (try simp only [List.map_toArray, List.map_cons, List.map_nil]); first | done | (rw [show t193.length = t181.length from (Kd.R_reads' HO_8.out).1.symm] <;> rfl) | rfl | (simp only [List.length_drop, List.length_take]; rfl)) ?_; (with_reducible refine (laws_heldChangeS.calls kj15 _ _ t193 1 t194 _ ?side1 ?side2 A36.out).mono ?_); (case side1 => exact laws_FnExactUndoFeed.s0 HO_8.out); (case side2 => rw [show t193.length = t181.length from (Kd.R_reads' HO_8.out).1.symm]; exact (Kd.R_reads' HO_8.out).2.1); rintro e w47 ⟨rfl, hb⟩; refine ⟨_, rfl, ?_⟩; have n0_ := Aside0.mk (Kd.R_below (kr (HO_6.out)) hb); have n1_ := Aside0.mk (Kd.R_below (kr (HO_8.out)) hb); have n2_ := an0 HB hb; clear HO_6; clear HO_8; clear HB; have HO_6 := n0_; have HO_8 := n1_; have HB := n2_; clear n0_ n1_ n2_; (try clear hb); (try clear hb2); (try clear hk); (try clear hi)) | ((with_reducible refine gate_callee (f := 25) rfl ?_); refine gsl (some 59) rfl Try.func25 #[.slice A0 l0.length c0] rfl ?_; (with_reducible refine (laws_toChangeS.calls kj15 _ _ l0 t195 _ ?side1 ?side2 A39.out).mono ?_); (case side1 => exact cc (Kd.C_below HR0.out HB.out)); (case side2 => exact HC0.out); rintro e w48 ⟨v196, rfl, ho0, hb⟩; refine ⟨_, rfl, ?_⟩; have n0_ := Aside0.mk (Kd.R_elder' (kr (HO_6.out)) (Kd.R_base ho0) hb); have n1_ := Aside0.mk (Kd.R_elder' (kr (HO_8.out)) (Kd.R_base ho0) hb); have n2_ := Aside0.mk (Kd.R_lower (Kd.R_new' (Kd.R_new' ho0 (Kd.R_lt (kr (HO_6.out)))) (Kd.R_lt (kr (HO_8.out)))) (below_size (bp HB.out))); have n3_ := an0 HB hb; clear HO_6; clear HO_8; clear HB; have HO_6 := n0_; have HO_8 := n1_; have HO197 := n2_; have HB := n3_; clear n0_ n1_ n2_ n3_; (try clear hb); (try clear hb2); (try clear hk); (try clear hi); (try clear ho0); obtain ⟨Ao49, co49, eo49⟩ := Kd.R_slice HO197.out; subst eo49) | ((with_reducible refine gate_callee (f := 31) rfl ?_); refine gsl (some 61) rfl Try.func31 #[.slice Ao49 t195.length co49, .int .i64 a1] rfl ?_; (with_reducible refine (impl_UndoFeed.calls kj15 _ _ t195 a1 t198 _ ?side1 ?side2 A40.out).mono ?_); (case side1 => exact laws_FnExactUndoFeed.s0 HO197.out); (case side2 => exact (Kd.R_reads' HO197.out).2.1); rintro e w50 ⟨v199, rfl, ho0, hb⟩; refine ⟨_, rfl, ?_⟩; have n0_ := Aside0.mk (Kd.R_elder' (kr (HO_6.out)) (Kd.R_base ho0) hb); have n1_ := Aside0.mk (Kd.R_elder' (kr (HO_8.out)) (Kd.R_base ho0) hb); have n2_ := Aside0.mk (Kd.R_elder' (kr (HO197.out)) (Kd.R_base ho0) hb); have n3_ := Aside0.mk (Kd.R_lower (Kd.R_new' (Kd.R_new' (Kd.R_new' ho0 (Kd.R_lt (kr (HO_6.out)))) (Kd.R_lt (kr (HO_8.out)))) (Kd.R_lt (kr (HO197.out)))) (below_size (bp HB.out))); have n4_ := an0 HB hb; clear HO_6; clear HO_8; clear HO197; clear HB; have HO_6 := n0_; have HO_8 := n1_; have HO197 := n2_; have HO200 := n3_; have HB := n4_; clear n0_ n1_ n2_ n3_ n4_; (try clear hb); (try clear hb2); (try clear hk); (try clear hi); (try clear ho0); obtain ⟨Ao51, co51, eo51⟩ := Kd.R_slice HO200.out; subst eo51) | ((with_reducible refine gate_callee (f := 27) rfl ?_); refine gsl (some 64) rfl Try.func27 #[.slice Ao51 t198.length co51, .slice Ao25 t175.length co25] rfl ?_; (with_reducible refine (laws_eqChangeS.calls kj15 _ _ t198 _ _ t175 true _ ?side1 ?side2 ?side3 ?side4 A41.out).mono ?_); (case side1 => exact laws_FnExactUndoFeed.s0 HO200.out); (case side2 => exact (Kd.R_reads' HO200.out).2.1); (case side3 => exact laws_FnExactUndoFeed.s0 HO_6.out); (case side4 => exact (Kd.R_reads' HO_6.out).2.1); rintro e w52 ⟨rfl, hb⟩; refine ⟨_, rfl, ?_⟩; have n0_ := Aside0.mk (Kd.R_below (kr (HO_6.out)) hb); have n1_ := Aside0.mk (Kd.R_below (kr (HO_8.out)) hb); have n2_ := Aside0.mk (Kd.R_below (kr (HO197.out)) hb); have n3_ := Aside0.mk (Kd.R_below (kr (HO200.out)) hb); have n4_ := an0 HB hb; clear HO_6; clear HO_8; clear HO197; clear HO200; clear HB; have HO_6 := n0_; have HO_8 := n1_; have HO197 := n2_; have HO200 := n3_; have HB := n4_; clear n0_ n1_ n2_ n3_ n4_; (try clear hb); (try clear hb2); (try clear hk); (try clear hi)) | ((with_reducible refine gate_callee (f := 29) rfl ?_); refine goesL_ (some 68) rfl rfl Try.func29 (by kernel_rfl) rfl #[.slice Ao24 t193.length co24, .int .i64 1] rfl (by (try simp only [List.map_toArray, List.map_cons, List.map_nil]); first | done | (rw [show t193.length = t181.length from (Kd.R_reads' HO_8.out).1.symm] <;> rfl) | rfl | (simp only [List.length_drop, List.length_take]; rfl)) ?_; (with_reducible refine (laws_heldChangeS.calls kj15 _ _ t193 1 t202 _ ?side1 ?side2 A43.out).mono ?_); (case side1 => exact laws_FnExactUndoFeed.s0 HO_8.out); (case side2 => rw [show t193.length = t181.length from (Kd.R_reads' HO_8.out).1.symm]; exact (Kd.R_reads' HO_8.out).2.1); rintro e w53 ⟨rfl, hb⟩; refine ⟨_, rfl, ?_⟩; have n0_ := Aside0.mk (Kd.R_below (kr (HO_6.out)) hb); have n1_ := Aside0.mk (Kd.R_below (kr (HO_8.out)) hb); have n2_ := Aside0.mk (Kd.R_below (kr (HO197.out)) hb); have n3_ := Aside0.mk (Kd.R_below (kr (HO200.out)) hb); have n4_ := an0 HB hb; clear HO_6; clear HO_8; clear HO197; clear HO200; clear HB; have HO_6 := n0_; have HO_8 := n1_; have HO197 := n2_; have HO200 := n3_; have HB := n4_; clear n0_ n1_ n2_ n3_ n4_; (try clear hb); (try clear hb2); (try clear hk); (try clear hi)))
                        go_ret
                        exact ⟨fe, bp HB.out⟩
                      · rw [if_neg c45] at H
                        have c45b0 : (t202 == t192) = false := beq_eq_false_iff_ne.mpr c45
                        have c45b1 : (t202 != t192) = true := bne_iff_ne.mpr c45
                        obtain rfl := Option.some.inj H
                        exact absurd hrt.out (by simp)
                  · replace c42 := Bool.eq_false_iff.mpr c42
                    subst c42
                    have H1 : (some false) = some r := by rw [if_neg (show ¬ (false = true) by decide)] at H; exact H
                    clear H
                    have H := H1
                    clear H1
                    obtain rfl := Option.some.inj H
                    exact absurd hrt.out (by simp)
                · rw [if_neg c38] at H
                  have c38b0 : (t194 == t192) = false := beq_eq_false_iff_ne.mpr c38
                  have c38b1 : (t194 != t192) = true := bne_iff_ne.mpr c38
                  obtain rfl := Option.some.inj H
                  exact absurd hrt.out (by simp)
      · replace c14 := Bool.eq_false_iff.mpr c14
        subst c14
        have H1 : (some false) = some r := by rw [if_neg (show ¬ (false = true) by decide)] at H; exact H
        clear H
        have H := H1
        clear H1
        obtain rfl := Option.some.inj H
        exact absurd hrt.out (by simp)
    · replace c11 := Bool.eq_false_iff.mpr c11
      subst c11
      have H1 : (some false) = some r := by rw [if_neg (show ¬ (false = true) by decide)] at H; exact H
      clear H
      have H := H1
      clear H1
      obtain rfl := Option.some.inj H
      exact absurd hrt.out (by simp)

end Go.Proofs.Ytkejaolfbejokaa.PFnExactUndoFeed
