-- Written by a program of this session, in the manner of the kit's print (wip/pp.py): functions and their contracts.
import Derived.Test.YtfeeifefmenlmaaPFnRealTimex0
import Derived.Test.YtfeeifefmenlmaaPFnRealTimex2
import Derived.Test.YtfeeifefmenlmaaPFnRealTimex5
import Derived.Test.YtfeeifefmenlmaaPFnRealTimex8
import Derived.Test.YtfeeifefmenlmaaPFnRealTimex9
namespace Go.Proofs.Ytfeeifefmenlmaa.PFnRealTime
open Go.RowKit Go.Proofs.YtfeeifefmenlmaaW.PrintWords Go.Proofs.YtfeeifefmenlmaaW.PrintLast Go.Proofs.YtfeeifefmenlmaaW.PrintMore
attribute [local go_sem] binOp_leq_str binOp_gtr_str binOp_geq_str max2_int min2_int max_two min_two max_three min_three max_four min_four   -- for this text's walks alone
set_option linter.unusedVariables false
set_option linter.unusedSimpArgs false

/-! ### impl_RealTime: function 21 -/
mutual
def impl_RealTime.j0 : Nat → List (S42) → List Int → Bool → Option (Bool)
  | 0, _, _, _ => none
  | k + 1, x0, x1, x18 => if x18 = true then (some false) else (impl_RealTime.l0 k x0 x1 x1 (x1.length : Int) 0)
def impl_RealTime.l0 : Nat → List (S42) → List Int → List Int → Int → Int → Option (Bool)
  | 0, _, _, _, _, _ => none
  | k + 1, x0, x1, x19, x20, x21 => if x21 < x20 then (if 0 ≤ x21 then (if x21 < (x19.length : Int) then (if 0 ≤ (wrap64 (x21 + 1)) then (if (wrap64 (x21 + 1)) ≤ (x1.length : Int) then ((some (x1.drop ((wrap64 (x21 + 1)) : Int).toNat : List Int)).bind fun y452 => (impl_RealTime.l1 k x0 x1 (rd x19 x21) x19 x20 x21 y452 (y452.length : Int) 0)) else (none)) else (none)) else (none)) else (none)) else (some true)
def impl_RealTime.l1 : Nat → List (S42) → List Int → Int → List Int → Int → Int → List Int → Int → Int → Option (Bool)
  | 0, _, _, _, _, _, _, _, _, _ => none
  | k + 1, x0, x1, x6, x19, x20, x21, x29, x30, x31 => if x31 < x30 then (if 0 ≤ x31 then (if x31 < (x29.length : Int) then (if 0 ≤ (rd x29 x31) then (if (rd x29 x31) < (x0.length : Int) then (if 0 ≤ x6 then (if x6 < (x0.length : Int) then (if ((rd_T42 x0 (rd x29 x31)).f5) < ((rd_T42 x0 x6).f4) then (some false) else (impl_RealTime.l1 k x0 x1 x6 x19 x20 x21 x29 x30 (wrap64 (x31 + 1)))) else (none)) else (none)) else (none)) else (none)) else (none)) else (none)) else (impl_RealTime.l0 k x0 x1 x19 x20 (wrap64 (x21 + 1)))
end
def impl_RealTime.f (k : Nat) (l0 : List (S42)) (l1 : List Int) : Option (Bool) := (impl_resultsValid.f k l0).bind fun t449 => (if t449 = true then ((impl_OrderValid.f k (l0.length : Int) l1).bind fun t450 => (impl_RealTime.j0 k l0 l1 (!t450))) else (impl_RealTime.j0 k l0 l1 true))
theorem impl_RealTime.mono_l : ∀ k, (∀ y0 y1 y2, LeO (impl_RealTime.j0 k y0 y1 y2) (impl_RealTime.j0 (k + 1) y0 y1 y2)) ∧ (∀ y0 y1 y2 y3 y4, LeO (impl_RealTime.l0 k y0 y1 y2 y3 y4) (impl_RealTime.l0 (k + 1) y0 y1 y2 y3 y4)) ∧ (∀ y0 y1 y2 y3 y4 y5 y6 y7 y8, LeO (impl_RealTime.l1 k y0 y1 y2 y3 y4 y5 y6 y7 y8) (impl_RealTime.l1 (k + 1) y0 y1 y2 y3 y4 y5 y6 y7 y8))
  | 0 => ⟨fun _ _ _ r h => by simp [impl_RealTime.j0] at h, fun _ _ _ _ _ r h => by simp [impl_RealTime.l0] at h, fun _ _ _ _ _ _ _ _ _ r h => by simp [impl_RealTime.l1] at h⟩
  | k + 1 => by
    obtain ⟨ih0, ih1, ih2⟩ := impl_RealTime.mono_l k
    refine ⟨?_, ?_, ?_⟩
    · intro y0 y1 y2
      unfold impl_RealTime.j0
      repeat' first
      | (with_reducible exact ih0 _ _ _)
      | (with_reducible exact ih1 _ _ _ _ _)
      | (with_reducible exact ih2 _ _ _ _ _ _ _ _ _)
      | (with_reducible exact impl_OrderValid.mono _ _ _)
      | (with_reducible exact impl_resultsValid.mono _ _)
      | (with_reducible exact LeO.refl _)
      | (with_reducible exact LeO.none _)
      | (with_reducible refine LeO.ite ?_ ?_)
      | (with_reducible refine LeO.bind ?_ (fun _ => ?_))
      | exact ih0 _ _ _
      | exact ih1 _ _ _ _ _
      | exact ih2 _ _ _ _ _ _ _ _ _
      | exact impl_OrderValid.mono _ _ _
      | exact impl_resultsValid.mono _ _
      | exact LeO.none _
      | refine LeO.ite ?_ ?_
      | refine LeO.bind ?_ (fun _ => ?_)
    · intro y0 y1 y2 y3 y4
      unfold impl_RealTime.l0
      repeat' first
      | (with_reducible exact ih0 _ _ _)
      | (with_reducible exact ih1 _ _ _ _ _)
      | (with_reducible exact ih2 _ _ _ _ _ _ _ _ _)
      | (with_reducible exact impl_OrderValid.mono _ _ _)
      | (with_reducible exact impl_resultsValid.mono _ _)
      | (with_reducible exact LeO.refl _)
      | (with_reducible exact LeO.none _)
      | (with_reducible refine LeO.ite ?_ ?_)
      | (with_reducible refine LeO.bind ?_ (fun _ => ?_))
      | exact ih0 _ _ _
      | exact ih1 _ _ _ _ _
      | exact ih2 _ _ _ _ _ _ _ _ _
      | exact impl_OrderValid.mono _ _ _
      | exact impl_resultsValid.mono _ _
      | exact LeO.none _
      | refine LeO.ite ?_ ?_
      | refine LeO.bind ?_ (fun _ => ?_)
    · intro y0 y1 y2 y3 y4 y5 y6 y7 y8
      unfold impl_RealTime.l1
      repeat' first
      | (with_reducible exact ih0 _ _ _)
      | (with_reducible exact ih1 _ _ _ _ _)
      | (with_reducible exact ih2 _ _ _ _ _ _ _ _ _)
      | (with_reducible exact impl_OrderValid.mono _ _ _)
      | (with_reducible exact impl_resultsValid.mono _ _)
      | (with_reducible exact LeO.refl _)
      | (with_reducible exact LeO.none _)
      | (with_reducible refine LeO.ite ?_ ?_)
      | (with_reducible refine LeO.bind ?_ (fun _ => ?_))
      | exact ih0 _ _ _
      | exact ih1 _ _ _ _ _
      | exact ih2 _ _ _ _ _ _ _ _ _
      | exact impl_OrderValid.mono _ _ _
      | exact impl_resultsValid.mono _ _
      | exact LeO.none _
      | refine LeO.ite ?_ ?_
      | refine LeO.bind ?_ (fun _ => ?_)
theorem impl_RealTime.mono : ∀ a0 a1 k, LeO (impl_RealTime.f k a0 a1) (impl_RealTime.f (k + 1) a0 a1) := by
  intro a0 a1 k
  obtain ⟨ih0, ih1, ih2⟩ := impl_RealTime.mono_l k
  unfold impl_RealTime.f
  repeat' first
      | (with_reducible exact ih0 _ _ _)
      | (with_reducible exact ih1 _ _ _ _ _)
      | (with_reducible exact ih2 _ _ _ _ _ _ _ _ _)
      | (with_reducible exact impl_OrderValid.mono _ _ _)
      | (with_reducible exact impl_resultsValid.mono _ _)
      | (with_reducible exact LeO.refl _)
      | (with_reducible exact LeO.none _)
      | (with_reducible refine LeO.ite ?_ ?_)
      | (with_reducible refine LeO.bind ?_ (fun _ => ?_))
      | exact ih0 _ _ _
      | exact ih1 _ _ _ _ _
      | exact ih2 _ _ _ _ _ _ _ _ _
      | exact impl_OrderValid.mono _ _ _
      | exact impl_resultsValid.mono _ _
      | exact LeO.none _
      | refine LeO.ite ?_ ?_
      | refine LeO.bind ?_ (fun _ => ?_)
set_option maxHeartbeats 8000000 in
set_option maxRecDepth 100000 in
theorem impl_RealTime.calls (k : Nat) (A0 : Option Addr) (c0 : Nat) (l0 : List (S42)) (A1 : Option Addr) (c1 : Nat) (l1 : List Int) (r : Bool) (w : World) (hr0 : Kd.C k42 w A0 l0.length l0) (hc0 : l0.length ≤ c0) (hr1 : Kd.C (Kd.int .i64) w A1 l1.length l1) (hc1 : l1.length ≤ c1) (h : impl_RealTime.f k l0 l1 = some r) :
    Calls Try.prog 21 #[.slice A0 l0.length c0, .slice A1 l1.length c1] w fun e w' => e = .returned (.bool r) ∧ Below w.heap.size w w' := by
  have HR0 := Aside0.mk hr0
  have HC0 := Aside0.mk hc0
  clear hr0 hc0
  have HR1 := Aside0.mk hr1
  have HC1 := Aside0.mk hc1
  clear hr1 hc1
  have HB := Aside0.mk (Below.refl w.heap.size w)
  have H : ((impl_resultsValid.f k l0).bind fun t449 => (if t449 = true then ((impl_OrderValid.f k (l0.length : Int) l1).bind fun t450 => (impl_RealTime.j0 k l0 l1 (!t450))) else (impl_RealTime.j0 k l0 l1 true))) = some r := h
  clear h
  have HC3 := Aside0.mk H
  clear H
  go_enter Try.func21, Try.ntmps21
  go_upto_region 1 with (fail)
  repeat (go_quiet (fail); go_upto_region 1 with (fail))
  go_cut [18] (fun v18 wc => ∃ (kq : Nat) (x18_2 : Bool), v18 = .bool x18_2 ∧ Aside0 (impl_RealTime.j0 kq l0 l1 x18_2 = some r) ∧ Aside0 (kq ≤ k) ∧ Aside0 (Below w.heap.size w wc))
  case first =>
    have H := HC3.out
    clear HC3
    replace H := Option.bind_eq_some_iff.mp H
    obtain ⟨t449, A40, H⟩ := H
    replace H : (if t449 = true then ((impl_OrderValid.f k (l0.length : Int) l1).bind fun t450 => (impl_RealTime.j0 k l0 l1 (!t450))) else (impl_RealTime.j0 k l0 l1 true)) = some r := H
    have A4 := Aside0.mk A40
    clear A40
    by_cases c5 : t449 = true
    · subst c5
      have H1 : ((impl_OrderValid.f k (l0.length : Int) l1).bind fun t450 => (impl_RealTime.j0 k l0 l1 (!t450))) = some r := by rw [if_pos rfl] at H; exact H
      clear H
      have H := H1
      clear H1
      replace H := Option.bind_eq_some_iff.mp H
      obtain ⟨t450, A60, H⟩ := H
      replace H : (impl_RealTime.j0 k l0 l1 (!t450)) = some r := H
      have A6 := Aside0.mk A60
      clear A60
      have H' := Aside0.mk H
      clear H
      go_wp2_with (first | (go_at_call 80; (with_reducible refine (impl_resultsValid.calls k _ _ l0 true _ ?side1 ?side2 A4.out).mono ?_); (case side1 => exact cc (Kd.C_below HR0.out HB.out)); (case side2 => exact HC0.out); rintro e w7 ⟨rfl, hb⟩; replace HB := an0 HB hb; (try clear hb); (try clear hb2); (try clear hk); (try clear hi)) | (go_at_call 23; (with_reducible refine (impl_OrderValid.calls k (l0.length : Int) _ _ l1 t450 _ ?side1 ?side2 A6.out).mono ?_); (case side1 => exact cc (Kd.C_below HR1.out HB.out)); (case side2 => exact HC1.out); rintro e w' ⟨rfl, ⟨nd, rfl⟩⟩; (try first | exact ⟨rfl, _, World.drewN_drewN _ _ _⟩ | exact ⟨rfl, _, Eq.trans (World.drewN_drewN _ _ _) (congrArg (World.drewN _) (Nat.add_assoc _ _ _))⟩)))
      repeat (go_quiet (first | (go_at_call 80; (with_reducible refine (impl_resultsValid.calls k _ _ l0 true _ ?side1 ?side2 A4.out).mono ?_); (case side1 => exact cc (Kd.C_below HR0.out HB.out)); (case side2 => exact HC0.out); rintro e w7 ⟨rfl, hb⟩; replace HB := an0 HB hb; (try clear hb); (try clear hb2); (try clear hk); (try clear hi)) | (go_at_call 23; (with_reducible refine (impl_OrderValid.calls k (l0.length : Int) _ _ l1 t450 _ ?side1 ?side2 A6.out).mono ?_); (case side1 => exact cc (Kd.C_below HR1.out HB.out)); (case side2 => exact HC1.out); rintro e w' ⟨rfl, ⟨nd, rfl⟩⟩; (try first | exact ⟨rfl, _, World.drewN_drewN _ _ _⟩ | exact ⟨rfl, _, Eq.trans (World.drewN_drewN _ _ _) (congrArg (World.drewN _) (Nat.add_assoc _ _ _))⟩))); try go_wp2_with (first | (go_at_call 80; (with_reducible refine (impl_resultsValid.calls k _ _ l0 true _ ?side1 ?side2 A4.out).mono ?_); (case side1 => exact cc (Kd.C_below HR0.out HB.out)); (case side2 => exact HC0.out); rintro e w7 ⟨rfl, hb⟩; replace HB := an0 HB hb; (try clear hb); (try clear hb2); (try clear hk); (try clear hi)) | (go_at_call 23; (with_reducible refine (impl_OrderValid.calls k (l0.length : Int) _ _ l1 t450 _ ?side1 ?side2 A6.out).mono ?_); (case side1 => exact cc (Kd.C_below HR1.out HB.out)); (case side2 => exact HC1.out); rintro e w' ⟨rfl, ⟨nd, rfl⟩⟩; (try first | exact ⟨rfl, _, World.drewN_drewN _ _ _⟩ | exact ⟨rfl, _, Eq.trans (World.drewN_drewN _ _ _) (congrArg (World.drewN _) (Nat.add_assoc _ _ _))⟩))))
      go_meet
      case rel => exact ⟨_, (!t450), (by first | rfl | (simp; done) | (simp [*]; done) | (simp [bne_nil_, beq_nil_]; done)), H', ⟨by first | omega | exact Nat.le_refl _⟩, ⟨bp HB.out⟩⟩
    · replace c5 := Bool.eq_false_iff.mpr c5
      subst c5
      have H1 : (impl_RealTime.j0 k l0 l1 true) = some r := by rw [if_neg (show ¬ (false = true) by decide)] at H; exact H
      clear H
      have H := H1
      clear H1
      have H' := Aside0.mk H
      clear H
      go_wp2_with (first | (go_at_call 80; (with_reducible refine (impl_resultsValid.calls k _ _ l0 false _ ?side1 ?side2 A4.out).mono ?_); (case side1 => exact cc (Kd.C_below HR0.out HB.out)); (case side2 => exact HC0.out); rintro e w8 ⟨rfl, hb⟩; replace HB := an0 HB hb; (try clear hb); (try clear hb2); (try clear hk); (try clear hi)))
      repeat (go_quiet (first | (go_at_call 80; (with_reducible refine (impl_resultsValid.calls k _ _ l0 false _ ?side1 ?side2 A4.out).mono ?_); (case side1 => exact cc (Kd.C_below HR0.out HB.out)); (case side2 => exact HC0.out); rintro e w8 ⟨rfl, hb⟩; replace HB := an0 HB hb; (try clear hb); (try clear hb2); (try clear hk); (try clear hi))); try go_wp2_with (first | (go_at_call 80; (with_reducible refine (impl_resultsValid.calls k _ _ l0 false _ ?side1 ?side2 A4.out).mono ?_); (case side1 => exact cc (Kd.C_below HR0.out HB.out)); (case side2 => exact HC0.out); rintro e w8 ⟨rfl, hb⟩; replace HB := an0 HB hb; (try clear hb); (try clear hb2); (try clear hk); (try clear hi))))
      go_meet
      case rel => exact ⟨_, (true), (by first | rfl | (simp; done) | (simp [*]; done) | (simp [bne_nil_, beq_nil_]; done)), H', ⟨by first | omega | exact Nat.le_refl _⟩, ⟨bp HB.out⟩⟩
  case rest =>
    clear HC3
    try clear c1
    try clear c2
    try clear p2
    try clear c5
    obtain ⟨kq, x18_2, rfl, HA, HJ2, HB⟩ := hcut
    cases kq with
    | zero => exact absurd HA.out (by simp [impl_RealTime.j0])
    | succ kj2 =>
      have H := HA.out
      clear HA
      simp only [impl_RealTime.j0] at H
      by_cases c9 : x18_2 = true
      · subst c9
        have H1 : (some false) = some r := by rw [if_pos rfl] at H; exact H
        clear H
        have H := H1
        clear H1
        obtain rfl := Option.some.inj H
        go_wp2
        repeat (go_quiet (fail); try go_wp2)
        go_ret
        exact ⟨fe, bp HB.out⟩
      · replace c9 := Bool.eq_false_iff.mpr c9
        subst c9
        have H1 : (impl_RealTime.l0 kj2 l0 l1 l1 (l1.length : Int) 0) = some r := by rw [if_neg (show ¬ (false = true) by decide)] at H; exact H
        clear H
        have H := H1
        clear H1
        have H' := Aside0.mk H
        clear H
        go_wp2
        repeat (go_quiet (fail); try go_wp2)
        go_loopg [21] kj2 (fun kq v21 w' => ∃ (x21_2 : Int), v21 = .int .i64 x21_2 ∧ Aside0 (impl_RealTime.l0 kq l0 l1 l1 (l1.length : Int) x21_2 = some r) ∧ Aside0 (kq ≤ kj2) ∧ Aside0 (Below w.heap.size w w'))
        case atStart => exact ⟨(0), (by first | rfl | (simp; done) | (simp [*]; done) | (simp [bne_nil_, beq_nil_]; done)), H', ⟨Nat.le_refl _⟩, ⟨bp HB.out⟩⟩
        case round =>
          clear H'
          try clear c1
          try clear c2
          try clear p2
          try clear c5
          try clear p6
          try clear c9
          try clear p2
          obtain ⟨x21_2, rfl, HA, HK2, HB⟩ := hrel
          cases gk with
          | zero => exact absurd HA.out (by simp [impl_RealTime.l0])
          | succ k2 =>
            have H := HA.out
            clear HA
            simp only [impl_RealTime.l0] at H
            by_cases c10 : x21_2 < (l1.length : Int)
            · rw [if_pos c10] at H
              have c10b0 : decide (x21_2 < (l1.length : Int)) = true := decide_eq_true c10
              clear c10
              by_cases c11 : 0 ≤ x21_2
              · rw [if_pos c11] at H
                have c11b0 : decide (0 ≤ x21_2) = true := decide_eq_true c11
                clear c11
                by_cases c12 : x21_2 < (l1.length : Int)
                · rw [if_pos c12] at H
                  have c12b0 : decide (x21_2 < (l1.length : Int)) = true := decide_eq_true c12
                  clear c12
                  obtain ⟨ji13, hji13⟩ : ∃ j_ : Int, (wrap64 (x21_2 + 1)) = j_ := ⟨_, rfl⟩
                  replace H : (if 0 ≤ (ji13) then (if (ji13) ≤ (l1.length : Int) then ((some (l1.drop ((ji13) : Int).toNat : List Int)).bind fun y452 => (impl_RealTime.l1 k2 l0 l1 (rd l1 x21_2) l1 (l1.length : Int) x21_2 y452 (y452.length : Int) 0)) else (none)) else (none)) = some r := by first | (rw [hji13] at H; exact H) | (simp only [hji13] at H ⊢; exact H)
                  have hji13w : (IntKind.i64.wrap (x21_2 + 1)) = ji13 := (i64_w _).trans hji13
                  by_cases c14 : 0 ≤ (ji13)
                  · rw [if_pos c14] at H
                    have c14b0 := eq_true c14
                    have c14b1 : decide (0 ≤ (ji13)) = true := decide_eq_true c14
                    clear c14
                    by_cases c15 : (ji13) ≤ (l1.length : Int)
                    · rw [if_pos c15] at H
                      have c15b0 := eq_true c15
                      have c15b1 : decide ((ji13) ≤ (l1.length : Int)) = true := decide_eq_true c15
                      clear c15
                      obtain ⟨y452, hy452⟩ : ∃ y_ : List Int, y_ = (l1.drop ((ji13) : Int).toNat) := ⟨_, rfl⟩
                      replace H : (impl_RealTime.l1 k2 l0 l1 (rd l1 x21_2) l1 (l1.length : Int) x21_2 y452 (y452.length : Int) 0) = some r := by first | (rw [hy452]; with_reducible exact H) | (have H2_ := (Option.bind_some _ _).symm.trans H; rw [hy452]; with_reducible exact H2_) | (have H2_ := (Option.bind_some _ _).symm.trans H; with_reducible exact H2_) | with_reducible exact H | (rw [hy452]; exact H) | exact H
                      have Ny452 := Aside0.mk hy452
                      clear hy452
                      have H' := Aside0.mk H
                      clear H
                      have p451 : 0 ≤ (x21_2 : Int) := of_decide_eq_true (by first | (with_reducible assumption) | assumption)
                      have q451 : x21_2 < (l1.length : Int) := of_decide_eq_true (by first | (with_reducible assumption) | assumption)
                      obtain ⟨ad451, e451, hx451_0⟩ := Kd.at_int HR1.out x21_2 p451 q451
                      cases e451
                      replace hx451_0 := hcx HB hx451_0
                      replace p451 := eq_true p451
                      replace q451 := eq_true q451
                      have q16 : ((ji13) : Int) ≤ ((l1.length : Int) : Int) := of_decide_eq_true (by first | (with_reducible assumption) | assumption)
                      obtain ⟨i016, hi016, _, hsz16, _⟩ := info_parts info3
                      have hroom16 : l1.length ≤ c1 := HC1.out
                      have hC16 : Kd.C (Kd.int .i64) _ (some ad451) l1.length l1 := HR1.out
                      have q016 : (0 : Int) ≤ ((ji13) : Int) := of_decide_eq_true (by first | (with_reducible assumption) | assumption)
                      have hcut16 := cut_from (P := Try.prog) 33 3 .i64 Try.underlying33 hi016 1 hsz16 (some ad451) l1.length c1 (ji13) q016 q16
                      have hr16 := Kd.C_drop (m := ((ji13) : Int).toNat) (c := c1) hC16 (by omega) hroom16
                      obtain ⟨A16, hA16⟩ : ∃ A_, A_ = (if c1 = ((ji13) : Int).toNat then (some ad451) else ((some ad451) : Option Addr).map (·.add (((ji13) : Int).toNat * 1))) := ⟨_, rfl⟩
                      obtain ⟨c16, hc16⟩ : ∃ c_, c_ = c1 - ((ji13) : Int).toNat := ⟨_, rfl⟩
                      have hy16 : y452.length = l1.length - ((ji13) : Int).toNat := (by rw [Ny452.out, List.length_drop] <;> omega)
                      rw [show (l1).drop ((ji13) : Int).toNat = y452 from Ny452.out.symm] at hr16
                      replace hr16 : Kd.C (Kd.int .i64) _ A16 y452.length y452 := (by rw [hA16]; exact hr16)
                      rw [← hy16, ← hA16, ← hc16] at hcut16
                      have HR455 := Aside0.mk hr16
                      have HC455 := Aside0.mk (show y452.length ≤ c16 from by rw [hy16, hc16]; exact Nat.sub_le_sub_right hroom16 _)
                      clear hr16 hC16 hroom16 hi016 hsz16 hc16
                      have KY16 := Aside0.mk hy16
                      have KA16 := Aside0.mk hA16
                      clear hy16 hA16
                      replace q16 := eq_true q16
                      go_wp2
                      repeat (go_quiet (fail); try go_wp2)
                      go_loopg [31] k2 (fun kq v31 w' => ∃ (x31_3 : Int), v31 = .int .i64 x31_3 ∧ Aside0 (impl_RealTime.l1 kq l0 l1 (rd l1 x21_2) l1 (l1.length : Int) x21_2 y452 (y452.length : Int) x31_3 = some r) ∧ Aside0 (kq ≤ k2) ∧ Aside0 (Below w.heap.size w w'))
                      case atStart => exact ⟨(0), (by first | rfl | (simp; done) | (simp [*]; done) | (simp [bne_nil_, beq_nil_]; done)), H', ⟨Nat.le_refl _⟩, ⟨bp HB.out⟩⟩
                      case round =>
                        clear H'
                        try clear c1
                        try clear q1
                        try clear c2
                        try clear p2
                        try clear p4
                        try clear q4
                        try clear hx4
                        try clear c5
                        try clear p6
                        try clear c9
                        try clear c10
                        try clear c10b0
                        try clear c11
                        try clear c11b0
                        try clear c12
                        try clear c12b0
                        try clear c14
                        try clear c14b0
                        try clear c14b1
                        try clear c15
                        try clear c15b0
                        try clear c15b1
                        try clear c16
                        try clear q16
                        try clear hx451_0
                        try clear p2
                        try clear p451
                        try clear p6
                        try clear q016
                        try clear q16
                        try clear q451
                        obtain ⟨x31_3, rfl, HA, HK3, HB⟩ := hrel
                        cases gk with
                        | zero => exact absurd HA.out (by simp [impl_RealTime.l1])
                        | succ k3 =>
                          have H := HA.out
                          clear HA
                          simp only [impl_RealTime.l1] at H
                          by_cases c17 : x31_3 < (y452.length : Int)
                          · rw [if_pos c17] at H
                            have c17b0 : decide (x31_3 < (y452.length : Int)) = true := decide_eq_true c17
                            clear c17
                            by_cases c18 : 0 ≤ x31_3
                            · rw [if_pos c18] at H
                              have c18b0 : decide (0 ≤ x31_3) = true := decide_eq_true c18
                              clear c18
                              by_cases c19 : x31_3 < (y452.length : Int)
                              · rw [if_pos c19] at H
                                have c19b0 : decide (x31_3 < (y452.length : Int)) = true := decide_eq_true c19
                                clear c19
                                by_cases c20 : 0 ≤ (rd y452 x31_3)
                                · rw [if_pos c20] at H
                                  have c20b0 : decide (0 ≤ (rd y452 x31_3)) = true := decide_eq_true c20
                                  clear c20
                                  by_cases c21 : (rd y452 x31_3) < (l0.length : Int)
                                  · rw [if_pos c21] at H
                                    have c21b0 : decide ((rd y452 x31_3) < (l0.length : Int)) = true := decide_eq_true c21
                                    clear c21
                                    by_cases c22 : 0 ≤ (rd l1 x21_2)
                                    · rw [if_pos c22] at H
                                      have c22b0 : decide (0 ≤ (rd l1 x21_2)) = true := decide_eq_true c22
                                      clear c22
                                      by_cases c23 : (rd l1 x21_2) < (l0.length : Int)
                                      · rw [if_pos c23] at H
                                        have c23b0 : decide ((rd l1 x21_2) < (l0.length : Int)) = true := decide_eq_true c23
                                        clear c23
                                        by_cases c24 : ((rd_T42 l0 (rd y452 x31_3)).f5) < ((rd_T42 l0 (rd l1 x21_2)).f4)
                                        · rw [if_pos c24] at H
                                          have c24b0 : decide (((rd_T42 l0 (rd y452 x31_3)).f5) < ((rd_T42 l0 (rd l1 x21_2)).f4)) = true := decide_eq_true c24
                                          clear c24
                                          obtain rfl := Option.some.inj H
                                          have p456 : 0 ≤ (x31_3 : Int) := of_decide_eq_true (by first | (with_reducible assumption) | assumption)
                                          have q456 : x31_3 < (y452.length : Int) := of_decide_eq_true (by first | (with_reducible assumption) | assumption)
                                          obtain ⟨ad456, e456, hx456_0⟩ := Kd.at_int HR455.out x31_3 p456 q456
                                          cases e456
                                          replace hx456_0 := hcx HB hx456_0
                                          replace p456 := eq_true p456
                                          replace q456 := eq_true q456
                                          have p457 : 0 ≤ ((rd y452 x31_3) : Int) := of_decide_eq_true (by first | (with_reducible assumption) | assumption)
                                          have q457 : (rd y452 x31_3) < (l0.length : Int) := of_decide_eq_true (by first | (with_reducible assumption) | assumption)
                                          obtain ⟨ad457, e457, hx457_0, hx457_1, hx457_2, hx457_3, hx457_4, hx457_5, hx457_6, hx457_7, hx457_8⟩ := at_T42 HR0.out (rd y452 x31_3) p457 q457
                                          cases e457
                                          replace hx457_0 := hcx HB hx457_0
                                          replace hx457_1 := hcx HB hx457_1
                                          replace hx457_2 := hcx HB hx457_2
                                          replace hx457_3 := hcx HB hx457_3
                                          replace hx457_4 := hcx HB hx457_4
                                          replace hx457_5 := hcx HB hx457_5
                                          replace hx457_6 := hcx HB hx457_6
                                          replace hx457_7 := hcx HB hx457_7
                                          replace hx457_8 := hcx HB hx457_8
                                          replace p457 := eq_true p457
                                          replace q457 := eq_true q457
                                          have p458 : 0 ≤ ((rd l1 x21_2) : Int) := of_decide_eq_true (by first | (with_reducible assumption) | assumption)
                                          have q458 : (rd l1 x21_2) < (l0.length : Int) := of_decide_eq_true (by first | (with_reducible assumption) | assumption)
                                          obtain ⟨ad458, e458, hx458_0, hx458_1, hx458_2, hx458_3, hx458_4, hx458_5, hx458_6, hx458_7, hx458_8⟩ := at_T42 HR0.out (rd l1 x21_2) p458 q458
                                          obtain rfl : ad457 = ad458 := (by injection e458)
                                          replace hx458_0 := hcx HB hx458_0
                                          replace hx458_1 := hcx HB hx458_1
                                          replace hx458_2 := hcx HB hx458_2
                                          replace hx458_3 := hcx HB hx458_3
                                          replace hx458_4 := hcx HB hx458_4
                                          replace hx458_5 := hcx HB hx458_5
                                          replace hx458_6 := hcx HB hx458_6
                                          replace hx458_7 := hcx HB hx458_7
                                          replace hx458_8 := hcx HB hx458_8
                                          replace p458 := eq_true p458
                                          replace q458 := eq_true q458
                                          go_wp2
                                          repeat (go_quiet (fail); try go_wp2)
                                          go_ret
                                          exact ⟨by first | rfl | (simp [errW_none, errW_some] <;> rfl) | (simp only [← hji13]; first | rfl | (simp [errW_none, errW_some] <;> rfl)) | (simp [*, errW_none, errW_some] <;> rfl) | (simp only [IntKind.wrap_u8, show ∀ n_ : Int, wrap64 (n_ % 256) = n_ % 256 from fun n_ => by unfold wrap64; omega]; rfl), bp HB.out⟩
                                        · rw [if_neg c24] at H
                                          have c24b0 : decide (((rd_T42 l0 (rd y452 x31_3)).f5) < ((rd_T42 l0 (rd l1 x21_2)).f4)) = false := decide_eq_false c24
                                          clear c24
                                          have H' := Aside0.mk H
                                          clear H
                                          have p456 : 0 ≤ (x31_3 : Int) := of_decide_eq_true (by first | (with_reducible assumption) | assumption)
                                          have q456 : x31_3 < (y452.length : Int) := of_decide_eq_true (by first | (with_reducible assumption) | assumption)
                                          obtain ⟨ad456, e456, hx456_0⟩ := Kd.at_int HR455.out x31_3 p456 q456
                                          cases e456
                                          replace hx456_0 := hcx HB hx456_0
                                          replace p456 := eq_true p456
                                          replace q456 := eq_true q456
                                          have p457 : 0 ≤ ((rd y452 x31_3) : Int) := of_decide_eq_true (by first | (with_reducible assumption) | assumption)
                                          have q457 : (rd y452 x31_3) < (l0.length : Int) := of_decide_eq_true (by first | (with_reducible assumption) | assumption)
                                          obtain ⟨ad457, e457, hx457_0, hx457_1, hx457_2, hx457_3, hx457_4, hx457_5, hx457_6, hx457_7, hx457_8⟩ := at_T42 HR0.out (rd y452 x31_3) p457 q457
                                          cases e457
                                          replace hx457_0 := hcx HB hx457_0
                                          replace hx457_1 := hcx HB hx457_1
                                          replace hx457_2 := hcx HB hx457_2
                                          replace hx457_3 := hcx HB hx457_3
                                          replace hx457_4 := hcx HB hx457_4
                                          replace hx457_5 := hcx HB hx457_5
                                          replace hx457_6 := hcx HB hx457_6
                                          replace hx457_7 := hcx HB hx457_7
                                          replace hx457_8 := hcx HB hx457_8
                                          replace p457 := eq_true p457
                                          replace q457 := eq_true q457
                                          have p458 : 0 ≤ ((rd l1 x21_2) : Int) := of_decide_eq_true (by first | (with_reducible assumption) | assumption)
                                          have q458 : (rd l1 x21_2) < (l0.length : Int) := of_decide_eq_true (by first | (with_reducible assumption) | assumption)
                                          obtain ⟨ad458, e458, hx458_0, hx458_1, hx458_2, hx458_3, hx458_4, hx458_5, hx458_6, hx458_7, hx458_8⟩ := at_T42 HR0.out (rd l1 x21_2) p458 q458
                                          obtain rfl : ad457 = ad458 := (by injection e458)
                                          replace hx458_0 := hcx HB hx458_0
                                          replace hx458_1 := hcx HB hx458_1
                                          replace hx458_2 := hcx HB hx458_2
                                          replace hx458_3 := hcx HB hx458_3
                                          replace hx458_4 := hcx HB hx458_4
                                          replace hx458_5 := hcx HB hx458_5
                                          replace hx458_6 := hcx HB hx458_6
                                          replace hx458_7 := hcx HB hx458_7
                                          replace hx458_8 := hcx HB hx458_8
                                          replace p458 := eq_true p458
                                          replace q458 := eq_true q458
                                          go_wp2
                                          repeat (go_quiet (fail); try go_wp2)
                                          go_roundg k3
                                          case measure => have := HJ2.out; have := HK2.out; have := HK3.out; omega
                                          case rel => exact ⟨(wrap64 (x31_3 + 1)), (by first | rfl | (simp; done) | (simp [*]; done) | (simp [bne_nil_, beq_nil_]; done)), H', ⟨by have := HJ2.out; have := HK2.out; have := HK3.out; omega⟩, ⟨bp HB.out⟩⟩
                                      · rw [if_neg c23] at H
                                        exact absurd H (by simp)
                                    · rw [if_neg c22] at H
                                      exact absurd H (by simp)
                                  · rw [if_neg c21] at H
                                    exact absurd H (by simp)
                                · rw [if_neg c20] at H
                                  exact absurd H (by simp)
                              · rw [if_neg c19] at H
                                exact absurd H (by simp)
                            · rw [if_neg c18] at H
                              exact absurd H (by simp)
                          · rw [if_neg c17] at H
                            have c17b0 : decide (x31_3 < (y452.length : Int)) = false := decide_eq_false c17
                            clear c17
                            have H' := Aside0.mk H
                            clear H
                            go_wp2
                            repeat (go_quiet (fail); try go_wp2)
                            go_roundg k3
                            case measure => have := HJ2.out; have := HK2.out; have := HK3.out; omega
                            case rel => exact ⟨(wrap64 (x21_2 + 1)), (by first | rfl | (simp; done) | (simp [*]; done) | (simp [bne_nil_, beq_nil_]; done)), H', ⟨by have := HJ2.out; have := HK2.out; have := HK3.out; omega⟩, ⟨bp HB.out⟩⟩
                    · rw [if_neg c15] at H
                      exact absurd H (by simp)
                  · rw [if_neg c14] at H
                    exact absurd H (by simp)
                · rw [if_neg c12] at H
                  exact absurd H (by simp)
              · rw [if_neg c11] at H
                exact absurd H (by simp)
            · rw [if_neg c10] at H
              have c10b0 : decide (x21_2 < (l1.length : Int)) = false := decide_eq_false c10
              clear c10
              obtain rfl := Option.some.inj H
              go_wp2
              repeat (go_quiet (fail); try go_wp2)
              go_ret
              exact ⟨fe, bp HB.out⟩

/-! ### spec_OrderValid: function 81 -/
mutual
def spec_OrderValid.j0 : Nat → Int → List Int → Bool → Option (Bool)
  | 0, _, _, _ => none
  | k + 1, x0, x1, x14 => if x14 = true then (some false) else (spec_OrderValid.l0 k x0 x1 0)
def spec_OrderValid.l0 : Nat → Int → List Int → Int → Option (Bool)
  | 0, _, _, _ => none
  | k + 1, x0, x1, x5 => if x5 < (x1.length : Int) then (if 0 ≤ x5 then ((spec_l1In.f (rd x1 x5) 0 (wrap64 (x0 - 1))).bind fun t460 => (if t460 = true then (spec_OrderValid.l1 k x0 x1 x5 0) else (some false))) else (none)) else (some true)
def spec_OrderValid.l1 : Nat → Int → List Int → Int → Int → Option (Bool)
  | 0, _, _, _, _ => none
  | k + 1, x0, x1, x5, x6 => if x6 < x5 then (if 0 ≤ x6 then (if x6 < (x1.length : Int) then (if 0 ≤ x5 then (if x5 < (x1.length : Int) then (if (rd x1 x6) = (rd x1 x5) then (some false) else (spec_OrderValid.l1 k x0 x1 x5 (wrap64 (x6 + 1)))) else (none)) else (none)) else (none)) else (none)) else (spec_OrderValid.l0 k x0 x1 (wrap64 (x5 + 1)))
end
def spec_OrderValid.f (k : Nat) (a0 : Int) (l1 : List Int) : Option (Bool) := if a0 > 5 then (spec_OrderValid.j0 k a0 l1 true) else (spec_OrderValid.j0 k a0 l1 ((l1.length : Int) != a0))
theorem spec_OrderValid.mono_l : ∀ k, (∀ y0 y1 y2, LeO (spec_OrderValid.j0 k y0 y1 y2) (spec_OrderValid.j0 (k + 1) y0 y1 y2)) ∧ (∀ y0 y1 y2, LeO (spec_OrderValid.l0 k y0 y1 y2) (spec_OrderValid.l0 (k + 1) y0 y1 y2)) ∧ (∀ y0 y1 y2 y3, LeO (spec_OrderValid.l1 k y0 y1 y2 y3) (spec_OrderValid.l1 (k + 1) y0 y1 y2 y3))
  | 0 => ⟨fun _ _ _ r h => by simp [spec_OrderValid.j0] at h, fun _ _ _ r h => by simp [spec_OrderValid.l0] at h, fun _ _ _ _ r h => by simp [spec_OrderValid.l1] at h⟩
  | k + 1 => by
    obtain ⟨ih0, ih1, ih2⟩ := spec_OrderValid.mono_l k
    refine ⟨?_, ?_, ?_⟩
    · intro y0 y1 y2
      unfold spec_OrderValid.j0
      repeat' first
      | (with_reducible exact ih0 _ _ _)
      | (with_reducible exact ih1 _ _ _)
      | (with_reducible exact ih2 _ _ _ _)
      | (with_reducible exact LeO.refl _)
      | (with_reducible exact LeO.none _)
      | (with_reducible refine LeO.ite ?_ ?_)
      | (with_reducible refine LeO.bind ?_ (fun _ => ?_))
      | exact ih0 _ _ _
      | exact ih1 _ _ _
      | exact ih2 _ _ _ _
      | exact LeO.none _
      | refine LeO.ite ?_ ?_
      | refine LeO.bind ?_ (fun _ => ?_)
    · intro y0 y1 y2
      unfold spec_OrderValid.l0
      repeat' first
      | (with_reducible exact ih0 _ _ _)
      | (with_reducible exact ih1 _ _ _)
      | (with_reducible exact ih2 _ _ _ _)
      | (with_reducible exact LeO.refl _)
      | (with_reducible exact LeO.none _)
      | (with_reducible refine LeO.ite ?_ ?_)
      | (with_reducible refine LeO.bind ?_ (fun _ => ?_))
      | exact ih0 _ _ _
      | exact ih1 _ _ _
      | exact ih2 _ _ _ _
      | exact LeO.none _
      | refine LeO.ite ?_ ?_
      | refine LeO.bind ?_ (fun _ => ?_)
    · intro y0 y1 y2 y3
      unfold spec_OrderValid.l1
      repeat' first
      | (with_reducible exact ih0 _ _ _)
      | (with_reducible exact ih1 _ _ _)
      | (with_reducible exact ih2 _ _ _ _)
      | (with_reducible exact LeO.refl _)
      | (with_reducible exact LeO.none _)
      | (with_reducible refine LeO.ite ?_ ?_)
      | (with_reducible refine LeO.bind ?_ (fun _ => ?_))
      | exact ih0 _ _ _
      | exact ih1 _ _ _
      | exact ih2 _ _ _ _
      | exact LeO.none _
      | refine LeO.ite ?_ ?_
      | refine LeO.bind ?_ (fun _ => ?_)
theorem spec_OrderValid.mono : ∀ a0 a1 k, LeO (spec_OrderValid.f k a0 a1) (spec_OrderValid.f (k + 1) a0 a1) := by
  intro a0 a1 k
  obtain ⟨ih0, ih1, ih2⟩ := spec_OrderValid.mono_l k
  unfold spec_OrderValid.f
  repeat' first
      | (with_reducible exact ih0 _ _ _)
      | (with_reducible exact ih1 _ _ _)
      | (with_reducible exact ih2 _ _ _ _)
      | (with_reducible exact LeO.refl _)
      | (with_reducible exact LeO.none _)
      | (with_reducible refine LeO.ite ?_ ?_)
      | (with_reducible refine LeO.bind ?_ (fun _ => ?_))
      | exact ih0 _ _ _
      | exact ih1 _ _ _
      | exact ih2 _ _ _ _
      | exact LeO.none _
      | refine LeO.ite ?_ ?_
      | refine LeO.bind ?_ (fun _ => ?_)
set_option maxHeartbeats 8000000 in
set_option maxRecDepth 100000 in
theorem spec_OrderValid.calls (k : Nat) (a0 : Int) (A1 : Option Addr) (c1 : Nat) (l1 : List Int) (r : Bool) (w : World) (hr1 : Kd.C (Kd.int .i64) w A1 l1.length l1) (hc1 : l1.length ≤ c1) (h : spec_OrderValid.f k a0 l1 = some r) :
    Calls Try.prog 81 #[.int .i64 a0, .slice A1 l1.length c1] w fun e w' => e = .returned (.bool r) ∧ Drawn0 w w' := by
  have HR1 := Aside0.mk hr1
  have HC1 := Aside0.mk hc1
  clear hr1 hc1
  have H : (if a0 > 5 then (spec_OrderValid.j0 k a0 l1 true) else (spec_OrderValid.j0 k a0 l1 ((l1.length : Int) != a0))) = some r := h
  clear h
  have HC3 := Aside0.mk H
  clear H
  go_enter Try.func81, Try.ntmps81
  go_upto_region 1 with (fail)
  repeat (go_quiet (fail); go_upto_region 1 with (fail))
  go_cut [14] (fun v14 wc => ∃ (kq : Nat) (x14_2 : Bool), v14 = .bool x14_2 ∧ Aside0 (spec_OrderValid.j0 kq a0 l1 x14_2 = some r) ∧ Aside0 (kq ≤ k) ∧ Drawn0 w wc)
  case first =>
    have H := HC3.out
    clear HC3
    by_cases c4 : a0 > 5
    · rw [if_pos c4] at H
      have c4b0 : decide (5 < a0) = true := decide_eq_true c4
      clear c4
      (first | rw [c4b0] | (simp only [i64_w, i32_w]; rw [c4b0]) | skip)
      have H' := Aside0.mk H
      clear H
      go_wp2
      repeat (go_quiet (fail); try go_wp2)
      go_meet
      case rel => exact ⟨_, (true), (by first | rfl | (simp; done) | (simp [*]; done) | (simp [bne_nil_, beq_nil_]; done)), H', ⟨by first | omega | exact Nat.le_refl _⟩, by repeat (first | exact Drawn0.refl _ | apply Drawn0.step)⟩
    · rw [if_neg c4] at H
      have c4b0 : decide (5 < a0) = false := decide_eq_false c4
      clear c4
      (first | rw [c4b0] | (simp only [i64_w, i32_w]; rw [c4b0]) | skip)
      have H' := Aside0.mk H
      clear H
      go_wp2
      repeat (go_quiet (fail); try go_wp2)
      go_meet
      case rel => exact ⟨_, (((l1.length : Int) != a0)), (by first | rfl | (simp; done) | (simp [*]; done) | (simp [bne_nil_, beq_nil_]; done)), H', ⟨by first | omega | exact Nat.le_refl _⟩, by repeat (first | exact Drawn0.refl _ | apply Drawn0.step)⟩
  case rest =>
    clear HC3
    try clear c1
    try clear p2
    try clear c4
    try clear c4b0
    obtain ⟨kq, x14_2, rfl, HA, HJ2, ⟨mc2, rfl⟩⟩ := hcut
    cases kq with
    | zero => exact absurd HA.out (by simp [spec_OrderValid.j0])
    | succ kj2 =>
      have H := HA.out
      clear HA
      simp only [spec_OrderValid.j0] at H
      by_cases c5 : x14_2 = true
      · subst c5
        have H1 : (some false) = some r := by rw [if_pos rfl] at H; exact H
        clear H
        have H := H1
        clear H1
        obtain rfl := Option.some.inj H
        go_wp2
        repeat (go_quiet (fail); try go_wp2)
        go_ret
        exact ⟨by first | rfl | (simp; done) | (simp [*]; done) | (simp [bne_nil_, beq_nil_]; done), by repeat (first | exact Drawn0.refl _ | apply Drawn0.step)⟩
      · replace c5 := Bool.eq_false_iff.mpr c5
        subst c5
        have H1 : (spec_OrderValid.l0 kj2 a0 l1 0) = some r := by rw [if_neg (show ¬ (false = true) by decide)] at H; exact H
        clear H
        have H := H1
        clear H1
        have H' := Aside0.mk H
        clear H
        go_wp2
        repeat (go_quiet (fail); try go_wp2)
        go_loopg [5] kj2 (fun kq v5 w' => ∃ (x5_2 : Int), v5 = .int .i64 x5_2 ∧ Aside0 (spec_OrderValid.l0 kq a0 l1 x5_2 = some r) ∧ Aside0 (kq ≤ kj2) ∧ Drawn0 w w')
        case atStart => exact ⟨(0), (by first | rfl | (simp; done) | (simp [*]; done) | (simp [bne_nil_, beq_nil_]; done)), H', ⟨Nat.le_refl _⟩, by repeat (first | exact Drawn0.refl _ | apply Drawn0.step)⟩
        case round =>
          clear H'
          try clear c1
          try clear c2
          try clear p2
          try clear c4
          try clear c4b0
          try clear c5
          try clear p2
          obtain ⟨x5_2, rfl, HA, HK2, ⟨m2, rfl⟩⟩ := hrel
          cases gk with
          | zero => exact absurd HA.out (by simp [spec_OrderValid.l0])
          | succ k2 =>
            have H := HA.out
            clear HA
            simp only [spec_OrderValid.l0] at H
            by_cases c6 : x5_2 < (l1.length : Int)
            · rw [if_pos c6] at H
              have c6b0 : decide (x5_2 < (l1.length : Int)) = true := decide_eq_true c6
              clear c6
              by_cases c7 : 0 ≤ x5_2
              · rw [if_pos c7] at H
                have c7b0 : decide (0 ≤ x5_2) = true := decide_eq_true c7
                clear c7
                replace H := Option.bind_eq_some_iff.mp H
                obtain ⟨t460, A80, H⟩ := H
                replace H : (if t460 = true then (spec_OrderValid.l1 k2 a0 l1 x5_2 0) else (some false)) = some r := H
                have A8 := Aside0.mk A80
                clear A80
                by_cases c9 : t460 = true
                · subst c9
                  have H1 : (spec_OrderValid.l1 k2 a0 l1 x5_2 0) = some r := by rw [if_pos rfl] at H; exact H
                  clear H
                  have H := H1
                  clear H1
                  have H' := Aside0.mk H
                  clear H
                  have p459 : 0 ≤ (x5_2 : Int) := of_decide_eq_true (by first | (with_reducible assumption) | assumption)
                  have q459 : x5_2 < (l1.length : Int) := of_decide_eq_true (by first | (with_reducible assumption) | assumption)
                  obtain ⟨ad459, e459, hx459_0⟩ := Kd.at_int HR1.out x5_2 p459 q459
                  cases e459
                  replace p459 := eq_true p459
                  replace q459 := eq_true q459
                  go_wp2_with (first | (go_at_call 112; (with_reducible refine (spec_l1In.calls (rd l1 x5_2) 0 (wrap64 (a0 - 1)) true _ A8.out).mono ?_); rintro e w' ⟨rfl, ⟨nd, rfl⟩⟩; (try first | exact ⟨rfl, _, World.drewN_drewN _ _ _⟩ | exact ⟨rfl, _, Eq.trans (World.drewN_drewN _ _ _) (congrArg (World.drewN _) (Nat.add_assoc _ _ _))⟩)))
                  repeat (go_quiet (first | (go_at_call 112; (with_reducible refine (spec_l1In.calls (rd l1 x5_2) 0 (wrap64 (a0 - 1)) true _ A8.out).mono ?_); rintro e w' ⟨rfl, ⟨nd, rfl⟩⟩; (try first | exact ⟨rfl, _, World.drewN_drewN _ _ _⟩ | exact ⟨rfl, _, Eq.trans (World.drewN_drewN _ _ _) (congrArg (World.drewN _) (Nat.add_assoc _ _ _))⟩))); try go_wp2_with (first | (go_at_call 112; (with_reducible refine (spec_l1In.calls (rd l1 x5_2) 0 (wrap64 (a0 - 1)) true _ A8.out).mono ?_); rintro e w' ⟨rfl, ⟨nd, rfl⟩⟩; (try first | exact ⟨rfl, _, World.drewN_drewN _ _ _⟩ | exact ⟨rfl, _, Eq.trans (World.drewN_drewN _ _ _) (congrArg (World.drewN _) (Nat.add_assoc _ _ _))⟩))))
                  go_loopg [6] k2 (fun kq v6 w' => ∃ (x6_3 : Int), v6 = .int .i64 x6_3 ∧ Aside0 (spec_OrderValid.l1 kq a0 l1 x5_2 x6_3 = some r) ∧ Aside0 (kq ≤ k2) ∧ Drawn0 w w')
                  case atStart => exact ⟨(0), (by first | rfl | (simp; done) | (simp [*]; done) | (simp [bne_nil_, beq_nil_]; done)), H', ⟨Nat.le_refl _⟩, by repeat (first | exact Drawn0.refl _ | apply Drawn0.step)⟩
                  case round =>
                    clear H'
                    try clear c1
                    try clear c2
                    try clear p2
                    try clear c4
                    try clear c4b0
                    try clear p4
                    try clear q4
                    try clear hx4
                    try clear c5
                    try clear c6
                    try clear c6b0
                    try clear p6
                    try clear c7
                    try clear c7b0
                    try clear c8
                    try clear c9
                    try clear hx459_0
                    try clear p2
                    try clear p459
                    try clear q459
                    obtain ⟨x6_3, rfl, HA, HK3, ⟨m3, rfl⟩⟩ := hrel
                    cases gk with
                    | zero => exact absurd HA.out (by simp [spec_OrderValid.l1])
                    | succ k3 =>
                      have H := HA.out
                      clear HA
                      simp only [spec_OrderValid.l1] at H
                      by_cases c10 : x6_3 < x5_2
                      · rw [if_pos c10] at H
                        have c10b0 : decide (x6_3 < x5_2) = true := decide_eq_true c10
                        clear c10
                        by_cases c11 : 0 ≤ x6_3
                        · rw [if_pos c11] at H
                          have c11b0 : decide (0 ≤ x6_3) = true := decide_eq_true c11
                          clear c11
                          by_cases c12 : x6_3 < (l1.length : Int)
                          · rw [if_pos c12] at H
                            have c12b0 : decide (x6_3 < (l1.length : Int)) = true := decide_eq_true c12
                            clear c12
                            by_cases c13 : 0 ≤ x5_2
                            · rw [if_pos c13] at H
                              have c13b0 : decide (0 ≤ x5_2) = true := decide_eq_true c13
                              clear c13
                              by_cases c14 : x5_2 < (l1.length : Int)
                              · rw [if_pos c14] at H
                                have c14b0 : decide (x5_2 < (l1.length : Int)) = true := decide_eq_true c14
                                clear c14
                                by_cases c15 : (rd l1 x6_3) = (rd l1 x5_2)
                                · rw [if_pos c15] at H
                                  have c15b0 : ((rd l1 x6_3) == (rd l1 x5_2)) = true := beq_iff_eq.mpr c15
                                  have c15b1 : ((rd l1 x6_3) != (rd l1 x5_2)) = false := bne_eq_false_iff_eq.mpr c15
                                  clear c15
                                  obtain rfl := Option.some.inj H
                                  have p461 : 0 ≤ (x6_3 : Int) := of_decide_eq_true (by first | (with_reducible assumption) | assumption)
                                  have q461 : x6_3 < (l1.length : Int) := of_decide_eq_true (by first | (with_reducible assumption) | assumption)
                                  obtain ⟨ad461, e461, hx461_0⟩ := Kd.at_int HR1.out x6_3 p461 q461
                                  obtain rfl : ad459 = ad461 := (by injection e461)
                                  replace p461 := eq_true p461
                                  replace q461 := eq_true q461
                                  have p462 : 0 ≤ (x5_2 : Int) := of_decide_eq_true (by first | (with_reducible assumption) | assumption)
                                  have q462 : x5_2 < (l1.length : Int) := of_decide_eq_true (by first | (with_reducible assumption) | assumption)
                                  obtain ⟨ad462, e462, hx462_0⟩ := Kd.at_int HR1.out x5_2 p462 q462
                                  obtain rfl : ad459 = ad462 := (by injection e462)
                                  replace p462 := eq_true p462
                                  replace q462 := eq_true q462
                                  go_wp2
                                  repeat (go_quiet (fail); try go_wp2)
                                  go_ret
                                  exact ⟨by first | rfl | (simp; done) | (simp [*]; done) | (simp [bne_nil_, beq_nil_]; done), by repeat (first | exact Drawn0.refl _ | apply Drawn0.step)⟩
                                · rw [if_neg c15] at H
                                  have c15b0 : ((rd l1 x6_3) == (rd l1 x5_2)) = false := beq_eq_false_iff_ne.mpr c15
                                  have c15b1 : ((rd l1 x6_3) != (rd l1 x5_2)) = true := bne_iff_ne.mpr c15
                                  have H' := Aside0.mk H
                                  clear H
                                  have p461 : 0 ≤ (x6_3 : Int) := of_decide_eq_true (by first | (with_reducible assumption) | assumption)
                                  have q461 : x6_3 < (l1.length : Int) := of_decide_eq_true (by first | (with_reducible assumption) | assumption)
                                  obtain ⟨ad461, e461, hx461_0⟩ := Kd.at_int HR1.out x6_3 p461 q461
                                  obtain rfl : ad459 = ad461 := (by injection e461)
                                  replace p461 := eq_true p461
                                  replace q461 := eq_true q461
                                  have p462 : 0 ≤ (x5_2 : Int) := of_decide_eq_true (by first | (with_reducible assumption) | assumption)
                                  have q462 : x5_2 < (l1.length : Int) := of_decide_eq_true (by first | (with_reducible assumption) | assumption)
                                  obtain ⟨ad462, e462, hx462_0⟩ := Kd.at_int HR1.out x5_2 p462 q462
                                  obtain rfl : ad459 = ad462 := (by injection e462)
                                  replace p462 := eq_true p462
                                  replace q462 := eq_true q462
                                  go_wp2
                                  repeat (go_quiet (fail); try go_wp2)
                                  go_roundg k3
                                  case measure => have := HJ2.out; have := HK2.out; have := HK3.out; omega
                                  case rel => exact ⟨(wrap64 (x6_3 + 1)), (by first | rfl | (simp; done) | (simp [*]; done) | (simp [bne_nil_, beq_nil_]; done)), H', ⟨by have := HJ2.out; have := HK2.out; have := HK3.out; omega⟩, by repeat (first | exact Drawn0.refl _ | apply Drawn0.step)⟩
                              · rw [if_neg c14] at H
                                exact absurd H (by simp)
                            · rw [if_neg c13] at H
                              exact absurd H (by simp)
                          · rw [if_neg c12] at H
                            exact absurd H (by simp)
                        · rw [if_neg c11] at H
                          exact absurd H (by simp)
                      · rw [if_neg c10] at H
                        have c10b0 : decide (x6_3 < x5_2) = false := decide_eq_false c10
                        clear c10
                        have H' := Aside0.mk H
                        clear H
                        go_wp2
                        repeat (go_quiet (fail); try go_wp2)
                        go_roundg k3
                        case measure => have := HJ2.out; have := HK2.out; have := HK3.out; omega
                        case rel => exact ⟨(wrap64 (x5_2 + 1)), (by first | rfl | (simp; done) | (simp [*]; done) | (simp [bne_nil_, beq_nil_]; done)), H', ⟨by have := HJ2.out; have := HK2.out; have := HK3.out; omega⟩, by repeat (first | exact Drawn0.refl _ | apply Drawn0.step)⟩
                · replace c9 := Bool.eq_false_iff.mpr c9
                  subst c9
                  have H1 : (some false) = some r := by rw [if_neg (show ¬ (false = true) by decide)] at H; exact H
                  clear H
                  have H := H1
                  clear H1
                  obtain rfl := Option.some.inj H
                  have p459 : 0 ≤ (x5_2 : Int) := of_decide_eq_true (by first | (with_reducible assumption) | assumption)
                  have q459 : x5_2 < (l1.length : Int) := of_decide_eq_true (by first | (with_reducible assumption) | assumption)
                  obtain ⟨ad459, e459, hx459_0⟩ := Kd.at_int HR1.out x5_2 p459 q459
                  cases e459
                  replace p459 := eq_true p459
                  replace q459 := eq_true q459
                  go_wp2_with (first | (go_at_call 112; (with_reducible refine (spec_l1In.calls (rd l1 x5_2) 0 (wrap64 (a0 - 1)) false _ A8.out).mono ?_); rintro e w' ⟨rfl, ⟨nd, rfl⟩⟩; (try first | exact ⟨rfl, _, World.drewN_drewN _ _ _⟩ | exact ⟨rfl, _, Eq.trans (World.drewN_drewN _ _ _) (congrArg (World.drewN _) (Nat.add_assoc _ _ _))⟩)))
                  repeat (go_quiet (first | (go_at_call 112; (with_reducible refine (spec_l1In.calls (rd l1 x5_2) 0 (wrap64 (a0 - 1)) false _ A8.out).mono ?_); rintro e w' ⟨rfl, ⟨nd, rfl⟩⟩; (try first | exact ⟨rfl, _, World.drewN_drewN _ _ _⟩ | exact ⟨rfl, _, Eq.trans (World.drewN_drewN _ _ _) (congrArg (World.drewN _) (Nat.add_assoc _ _ _))⟩))); try go_wp2_with (first | (go_at_call 112; (with_reducible refine (spec_l1In.calls (rd l1 x5_2) 0 (wrap64 (a0 - 1)) false _ A8.out).mono ?_); rintro e w' ⟨rfl, ⟨nd, rfl⟩⟩; (try first | exact ⟨rfl, _, World.drewN_drewN _ _ _⟩ | exact ⟨rfl, _, Eq.trans (World.drewN_drewN _ _ _) (congrArg (World.drewN _) (Nat.add_assoc _ _ _))⟩))))
                  go_ret
                  exact ⟨by first | rfl | (simp; done) | (simp [*]; done) | (simp [bne_nil_, beq_nil_]; done), by repeat (first | exact Drawn0.refl _ | apply Drawn0.step)⟩
              · rw [if_neg c7] at H
                exact absurd H (by simp)
            · rw [if_neg c6] at H
              have c6b0 : decide (x5_2 < (l1.length : Int)) = false := decide_eq_false c6
              clear c6
              obtain rfl := Option.some.inj H
              go_wp2
              repeat (go_quiet (fail); try go_wp2)
              go_ret
              exact ⟨by first | rfl | (simp; done) | (simp [*]; done) | (simp [bne_nil_, beq_nil_]; done), by repeat (first | exact Drawn0.refl _ | apply Drawn0.step)⟩

/-! ### spec_l25Wish: function 133 -/
def spec_l25Wish.f (k : Nat) (a0_0 : Int) (a0_1 : ByteArray) (a0_2 : Int) (a0_3 : Int) : Option (Bool) := (spec_CommandValid.f k a0_0 a0_1 a0_2 a0_3).bind fun t464 => (if t464 = true then (some (a0_0 != 5)) else (some false))
theorem spec_l25Wish.mono : ∀ a0 a1 a2 a3 k, LeO (spec_l25Wish.f k a0 a1 a2 a3) (spec_l25Wish.f (k + 1) a0 a1 a2 a3) := by
  intro a0 a1 a2 a3 k
  unfold spec_l25Wish.f
  repeat' first
      | (with_reducible exact spec_CommandValid.mono _ _ _ _ _)
      | (with_reducible exact LeO.refl _)
      | (with_reducible exact LeO.none _)
      | (with_reducible refine LeO.ite ?_ ?_)
      | (with_reducible refine LeO.bind ?_ (fun _ => ?_))
      | exact spec_CommandValid.mono _ _ _ _ _
      | exact LeO.none _
      | refine LeO.ite ?_ ?_
      | refine LeO.bind ?_ (fun _ => ?_)
set_option maxHeartbeats 8000000 in
set_option maxRecDepth 100000 in
theorem spec_l25Wish.calls (k : Nat) (a0_0 : Int) (a0_1 : ByteArray) (a0_2 : Int) (a0_3 : Int) (r : Bool) (w : World) (h : spec_l25Wish.f k a0_0 a0_1 a0_2 a0_3 = some r) :
    Calls Try.prog 133 #[.agg #[.int .i64 a0_0, .string a0_1, .int .i64 a0_2, .int .i64 a0_3]] w fun e w' => e = .returned (.bool r) ∧ Below w.heap.size w w' := by
  have hu40 := Try.underlying40
  have HB := Aside0.mk (Below.refl w.heap.size w)
  have H : ((spec_CommandValid.f k a0_0 a0_1 a0_2 a0_3).bind fun t464 => (if t464 = true then (some (a0_0 != 5)) else (some false))) = some r := h
  clear h
  replace H := Option.bind_eq_some_iff.mp H
  obtain ⟨t464, A20, H⟩ := H
  replace H : (if t464 = true then (some (a0_0 != 5)) else (some false)) = some r := H
  have A2 := Aside0.mk A20
  clear A20
  by_cases c3 : t464 = true
  · subst c3
    have H1 : (some (a0_0 != 5)) = some r := by rw [if_pos rfl] at H; exact H
    clear H
    have H := H1
    clear H1
    obtain rfl := Option.some.inj H
    go_enter Try.func133, Try.ntmps133
    go_wp2_with (first | ((with_reducible refine gate_dst (N := 1) rfl ?_); refine bxe (N := 1) (cs := #[.int .i64 a0_0, .string a0_1, .int .i64 a0_2, .int .i64 a0_3]) (t := 40) ?_; intro gb463 hg w4 hbox hb; have BK463 := Aside0.mk (hbox); have GW463 := an2 HB hg; have GE463 := an2 HB hg; replace HB := an0 HB hb; clear hb hbox hg; obtain ⟨hcz5_0, hcz5_1, hcz5_2, hcz5_3, hfz5_0, hfz5_1, hfz5_2, hfz5_3⟩ := cl4 BK463) | ((with_reducible refine gate_callee (f := 160) rfl ?_); refine gsl (some 4) rfl Try.func160 #[.agg #[.int .i64 a0_0, .string a0_1, .int .i64 a0_2, .int .i64 a0_3]] rfl ?_; (with_reducible refine (spec_CommandValid.calls k a0_0 a0_1 a0_2 a0_3 true _ A2.out).mono ?_); rintro e w6 ⟨rfl, hb⟩; refine ⟨_, rfl, ?_⟩; replace BK463 := an1 BK463 hb; replace HB := an0 HB hb; (try clear hb); (try clear hb2); (try clear hk); (try clear hi); obtain ⟨hcz7_0, hcz7_1, hcz7_2, hcz7_3, hfz7_0, hfz7_1, hfz7_2, hfz7_3⟩ := cl4 BK463))
    go_ret
    exact ⟨fe, bp HB.out⟩
  · replace c3 := Bool.eq_false_iff.mpr c3
    subst c3
    have H1 : (some false) = some r := by rw [if_neg (show ¬ (false = true) by decide)] at H; exact H
    clear H
    have H := H1
    clear H1
    obtain rfl := Option.some.inj H
    go_enter Try.func133, Try.ntmps133
    go_wp2_with (first | ((with_reducible refine gate_dst (N := 1) rfl ?_); refine bxe (N := 1) (cs := #[.int .i64 a0_0, .string a0_1, .int .i64 a0_2, .int .i64 a0_3]) (t := 40) ?_; intro gb463 hg w8 hbox hb; have BK463 := Aside0.mk (hbox); have GW463 := an2 HB hg; have GE463 := an2 HB hg; replace HB := an0 HB hb; clear hb hbox hg; obtain ⟨hcz9_0, hcz9_1, hcz9_2, hcz9_3, hfz9_0, hfz9_1, hfz9_2, hfz9_3⟩ := cl4 BK463) | ((with_reducible refine gate_callee (f := 160) rfl ?_); refine gsl (some 4) rfl Try.func160 #[.agg #[.int .i64 a0_0, .string a0_1, .int .i64 a0_2, .int .i64 a0_3]] rfl ?_; (with_reducible refine (spec_CommandValid.calls k a0_0 a0_1 a0_2 a0_3 false _ A2.out).mono ?_); rintro e w10 ⟨rfl, hb⟩; refine ⟨_, rfl, ?_⟩; replace BK463 := an1 BK463 hb; replace HB := an0 HB hb; (try clear hb); (try clear hb2); (try clear hk); (try clear hi)))
    go_ret
    exact ⟨fe, bp HB.out⟩

end Go.Proofs.Ytfeeifefmenlmaa.PFnRealTime
