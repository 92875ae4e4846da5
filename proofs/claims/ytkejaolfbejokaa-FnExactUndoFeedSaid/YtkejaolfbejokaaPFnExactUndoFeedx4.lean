-- Written by a program of this session, in the manner of the kit's print (wip/pp.py): functions and their contracts.
import Derived.Test.YtkejaolfbejokaaPFnExactUndoFeedx0
import Derived.Test.YtkejaolfbejokaaPFnExactUndoFeedx2
import Derived.Test.YtkejaolfbejokaaPFnExactUndoFeedx3
namespace Go.Proofs.Ytkejaolfbejokaa.PFnExactUndoFeed
open Go.RowKit Go.Proofs.YtkejaolfbejokaaW.PrintWords Go.Proofs.YtkejaolfbejokaaW.PrintLast Go.Proofs.YtkejaolfbejokaaW.PrintMore
attribute [local go_sem] binOp_leq_str binOp_gtr_str binOp_geq_str max2_int min2_int max_two min_two max_three min_three max_four min_four   -- for this text's walks alone
set_option linter.unusedVariables false
set_option linter.unusedSimpArgs false

/-! ### spec_UndoFeed: function 30 -/
mutual
def spec_UndoFeed.j0 : Nat → List (S110) → Int → List (S110) → Bool → Option ((List (S110)))
  | 0, _, _, _, _ => none
  | k + 1, x0, x1, x5, x31 => if x31 = true then (some x5) else (spec_UndoFeed.l0 k x0 x1 x5 (wrap64 ((x0.length : Int) - 1)))
def spec_UndoFeed.l0 : Nat → List (S110) → Int → List (S110) → Int → Option ((List (S110)))
  | 0, _, _, _, _ => none
  | k + 1, x0, x1, x5, x6 => if x6 ≥ 0 then (if 0 ≤ x6 then (if x6 < (x0.length : Int) then (if x5.length < 3518437208883 then (spec_UndoFeed.l0 k x0 x1 (x5 ++ [(⟨wrap64 ((wrap64 (x1 - 1)) - ((rd_T110 x0 x6).f0)), (rd_T110 x0 x6).f1, (rd_T110 x0 x6).f3, (rd_T110 x0 x6).f2⟩ : S110)]) (wrap64 (x6 - 1))) else (none)) else (none)) else (none)) else (some x5)
end
def spec_UndoFeed.f (k : Nat) (l0 : List (S110)) (a1 : Int) : Option ((List (S110))) := (some (([] : List (S110)) : List (S110))).bind fun y142 => ((spec_FeedValid.f k l0).bind fun t145 => (if t145 = true then ((spec_l1In.f a1 0 24).bind fun t146 => (if t146 = true then (if (l0.length : Int) > 0 then (if 0 ≤ (wrap64 ((l0.length : Int) - 1)) then (if (wrap64 ((l0.length : Int) - 1)) < (l0.length : Int) then (spec_UndoFeed.j0 k l0 a1 y142 (decide (((rd_T110 l0 (wrap64 ((l0.length : Int) - 1))).f0) ≥ a1))) else (none)) else (none)) else (spec_UndoFeed.j0 k l0 a1 y142 false)) else (spec_UndoFeed.j0 k l0 a1 y142 true))) else (spec_UndoFeed.j0 k l0 a1 y142 true)))
theorem spec_UndoFeed.mono_l : ∀ k, (∀ y0 y1 y2 y3, LeO (spec_UndoFeed.j0 k y0 y1 y2 y3) (spec_UndoFeed.j0 (k + 1) y0 y1 y2 y3)) ∧ (∀ y0 y1 y2 y3, LeO (spec_UndoFeed.l0 k y0 y1 y2 y3) (spec_UndoFeed.l0 (k + 1) y0 y1 y2 y3))
  | 0 => ⟨fun _ _ _ _ r h => by simp [spec_UndoFeed.j0] at h, fun _ _ _ _ r h => by simp [spec_UndoFeed.l0] at h⟩
  | k + 1 => by
    obtain ⟨ih0, ih1⟩ := spec_UndoFeed.mono_l k
    refine ⟨?_, ?_⟩
    · intro y0 y1 y2 y3
      unfold spec_UndoFeed.j0
      repeat' first
      | (with_reducible exact ih0 _ _ _ _)
      | (with_reducible exact ih1 _ _ _ _)
      | (with_reducible exact spec_FeedValid.mono _ _)
      | (with_reducible exact LeO.refl _)
      | (with_reducible exact LeO.none _)
      | (with_reducible refine LeO.ite ?_ ?_)
      | (with_reducible refine LeO.bind ?_ (fun _ => ?_))
      | exact ih0 _ _ _ _
      | exact ih1 _ _ _ _
      | exact spec_FeedValid.mono _ _
      | exact LeO.none _
      | refine LeO.ite ?_ ?_
      | refine LeO.bind ?_ (fun _ => ?_)
    · intro y0 y1 y2 y3
      unfold spec_UndoFeed.l0
      repeat' first
      | (with_reducible exact ih0 _ _ _ _)
      | (with_reducible exact ih1 _ _ _ _)
      | (with_reducible exact spec_FeedValid.mono _ _)
      | (with_reducible exact LeO.refl _)
      | (with_reducible exact LeO.none _)
      | (with_reducible refine LeO.ite ?_ ?_)
      | (with_reducible refine LeO.bind ?_ (fun _ => ?_))
      | exact ih0 _ _ _ _
      | exact ih1 _ _ _ _
      | exact spec_FeedValid.mono _ _
      | exact LeO.none _
      | refine LeO.ite ?_ ?_
      | refine LeO.bind ?_ (fun _ => ?_)
theorem spec_UndoFeed.mono : ∀ a0 a1 k, LeO (spec_UndoFeed.f k a0 a1) (spec_UndoFeed.f (k + 1) a0 a1) := by
  intro a0 a1 k
  obtain ⟨ih0, ih1⟩ := spec_UndoFeed.mono_l k
  unfold spec_UndoFeed.f
  repeat' first
      | (with_reducible exact ih0 _ _ _ _)
      | (with_reducible exact ih1 _ _ _ _)
      | (with_reducible exact spec_FeedValid.mono _ _)
      | (with_reducible exact LeO.refl _)
      | (with_reducible exact LeO.none _)
      | (with_reducible refine LeO.ite ?_ ?_)
      | (with_reducible refine LeO.bind ?_ (fun _ => ?_))
      | exact ih0 _ _ _ _
      | exact ih1 _ _ _ _
      | exact spec_FeedValid.mono _ _
      | exact LeO.none _
      | refine LeO.ite ?_ ?_
      | refine LeO.bind ?_ (fun _ => ?_)
def spec_UndoFeed.T7 : Bool × List (List Nat × List Nat) := (true, [([], []), ([], []), ([1], [1]), ([], []), ([], []), ([3, 4], [3, 4]), ([5], [5]), ([6], [6]), ([2, 7], [2, 7]), ([], []), ([], []), ([9, 10], [9, 10]), ([11], [11]), ([12], [12]), ([], []), ([], []), ([14, 15], [14, 15]), ([16], [16]), ([17], [17]), ([], []), ([], []), ([19, 20], [19, 20]), ([21], [21]), ([22], [22]), ([8, 13, 18, 23], [8, 13, 18, 23]), ([24], [24]), ([0, 25], [0, 25]), ([26, 26, 0, 1, 2, 3, 4, 5, 6, 7, 8, 9, 10, 11, 12, 13, 14, 15, 16, 17, 18, 19, 20, 21, 22, 23, 24, 25, 26], [0, 26])])
def spec_UndoFeed.B7 : List Nat := [0, 0, 2, 0, 0, 24, 56, 120, 254, 0, 0, 1536, 3584, 7680, 0, 0, 49152, 114688, 245760, 0, 0, 1572864, 3670016, 7864320, 16777214, 33554430, 67108863, 134217727]
theorem spec_UndoFeed.tab7 : rtab .any (opsOf Try.f30 7) = spec_UndoFeed.T7 := by kernel_rfl
theorem spec_UndoFeed.bits7 : waitsOk spec_UndoFeed.T7.2 spec_UndoFeed.B7 = true := by kernel_rfl
set_option maxHeartbeats 8000000 in
set_option maxRecDepth 100000 in
theorem spec_UndoFeed.calls (k : Nat) (A0 : Option Addr) (c0 : Nat) (l0 : List (S110)) (a1 : Int) (r : List (S110)) (w : World) (hr0 : Kd.C k110 w A0 l0.length l0) (hc0 : l0.length ≤ c0) (h : spec_UndoFeed.f k l0 a1 = some r) :
    Calls Try.prog 30 #[.slice A0 l0.length c0, .int .i64 a1] w fun e w' => ∃ v0_ : Value, e = .returned (v0_) ∧ Kd.R k110 110 w' w.heap.size (fun _ => True) v0_ r ∧ Below w.heap.size w w' := by
  have hu110 := Try.underlying110
  have HR0 := Aside0.mk hr0
  have HC0 := Aside0.mk hc0
  clear hr0 hc0
  have HB := Aside0.mk (Below.refl w.heap.size w)
  have H : ((some (([] : List (S110)) : List (S110))).bind fun y142 => ((spec_FeedValid.f k l0).bind fun t145 => (if t145 = true then ((spec_l1In.f a1 0 24).bind fun t146 => (if t146 = true then (if (l0.length : Int) > 0 then (if 0 ≤ (wrap64 ((l0.length : Int) - 1)) then (if (wrap64 ((l0.length : Int) - 1)) < (l0.length : Int) then (spec_UndoFeed.j0 k l0 a1 y142 (decide (((rd_T110 l0 (wrap64 ((l0.length : Int) - 1))).f0) ≥ a1))) else (none)) else (none)) else (spec_UndoFeed.j0 k l0 a1 y142 false)) else (spec_UndoFeed.j0 k l0 a1 y142 true))) else (spec_UndoFeed.j0 k l0 a1 y142 true)))) = some r := h
  clear h
  obtain ⟨y142, hy142⟩ : ∃ y_ : List (S110), y_ = (([] : List (S110))) := ⟨_, rfl⟩
  replace H : ((spec_FeedValid.f k l0).bind fun t145 => (if t145 = true then ((spec_l1In.f a1 0 24).bind fun t146 => (if t146 = true then (if (l0.length : Int) > 0 then (if 0 ≤ (wrap64 ((l0.length : Int) - 1)) then (if (wrap64 ((l0.length : Int) - 1)) < (l0.length : Int) then (spec_UndoFeed.j0 k l0 a1 y142 (decide (((rd_T110 l0 (wrap64 ((l0.length : Int) - 1))).f0) ≥ a1))) else (none)) else (none)) else (spec_UndoFeed.j0 k l0 a1 y142 false)) else (spec_UndoFeed.j0 k l0 a1 y142 true))) else (spec_UndoFeed.j0 k l0 a1 y142 true))) = some r := by first | (rw [hy142]; with_reducible exact H) | (have H2_ := (Option.bind_some _ _).symm.trans H; rw [hy142]; with_reducible exact H2_) | (have H2_ := (Option.bind_some _ _).symm.trans H; with_reducible exact H2_) | with_reducible exact H | (rw [hy142]; exact H) | exact H
  have Ny142 := Aside0.mk hy142
  clear hy142
  have HC3 := Aside0.mk H
  clear H
  go_enter Try.func30, Try.ntmps30
  go_upto_region 2 with (first | ((with_reducible refine gate_dst (N := 7) rfl ?_); (try (refine gate_guard (by rfl) ?_; dsimp only)); refine Kd.R_lit k110 _ 110 ?hg (N := 7) ?hd (xs := ([] : List (S110))) (inner := []) (ok := fun _ => True) (okp := fun _ => True) ?hr ?hp (fun _ hk => hk) trivial (Below.refl _ _) (Nat.le_refl _) (by simp) ?_; (case hd => rfl); (case hg => rfl); (case hr => first | (go_simp; done) | (go_simp; rfl)); (case hp => exact (Reps.none _ _)); intro v143 w4 ho5 hb hg_ hnew_; clear hg_ hnew_; (first | rw [← Ny142.out] at ho5 | (simp only [Int.reduceToNat] at ho5; rw [← Ny142.out] at ho5)); have n0_ := Aside0.mk (Kd.R_lower ho5 (below_size (bp HB.out))); have n1_ := an0 HB hb; clear HB; have HO144 := n0_; have HB := n1_; clear n0_ n1_; clear hb ho5))
  (try simp only [Act.put, List.setIfInBounds_toArray, List.set_cons_zero, List.set_cons_succ])
  go_cut [31] (fun v31 wc => ∃ (kq : Nat) (x31_2 : Bool), v31 = .bool x31_2 ∧ Aside0 (spec_UndoFeed.j0 kq l0 a1 y142 x31_2 = some r) ∧ Aside0 (kq ≤ k) ∧ Aside0 (Kd.R k110 110 wc w.heap.size (fun _ => True) v143 y142) ∧ Aside0 (Below w.heap.size w wc))
  case first =>
    have H := HC3.out
    clear HC3
    replace H := Option.bind_eq_some_iff.mp H
    obtain ⟨t145, A60, H⟩ := H
    replace H : (if t145 = true then ((spec_l1In.f a1 0 24).bind fun t146 => (if t146 = true then (if (l0.length : Int) > 0 then (if 0 ≤ (wrap64 ((l0.length : Int) - 1)) then (if (wrap64 ((l0.length : Int) - 1)) < (l0.length : Int) then (spec_UndoFeed.j0 k l0 a1 y142 (decide (((rd_T110 l0 (wrap64 ((l0.length : Int) - 1))).f0) ≥ a1))) else (none)) else (none)) else (spec_UndoFeed.j0 k l0 a1 y142 false)) else (spec_UndoFeed.j0 k l0 a1 y142 true))) else (spec_UndoFeed.j0 k l0 a1 y142 true)) = some r := H
    have A6 := Aside0.mk A60
    clear A60
    by_cases c7 : t145 = true
    · subst c7
      have H1 : ((spec_l1In.f a1 0 24).bind fun t146 => (if t146 = true then (if (l0.length : Int) > 0 then (if 0 ≤ (wrap64 ((l0.length : Int) - 1)) then (if (wrap64 ((l0.length : Int) - 1)) < (l0.length : Int) then (spec_UndoFeed.j0 k l0 a1 y142 (decide (((rd_T110 l0 (wrap64 ((l0.length : Int) - 1))).f0) ≥ a1))) else (none)) else (none)) else (spec_UndoFeed.j0 k l0 a1 y142 false)) else (spec_UndoFeed.j0 k l0 a1 y142 true))) = some r := by rw [if_pos rfl] at H; exact H
      clear H
      have H := H1
      clear H1
      replace H := Option.bind_eq_some_iff.mp H
      obtain ⟨t146, A80, H⟩ := H
      replace H : (if t146 = true then (if (l0.length : Int) > 0 then (if 0 ≤ (wrap64 ((l0.length : Int) - 1)) then (if (wrap64 ((l0.length : Int) - 1)) < (l0.length : Int) then (spec_UndoFeed.j0 k l0 a1 y142 (decide (((rd_T110 l0 (wrap64 ((l0.length : Int) - 1))).f0) ≥ a1))) else (none)) else (none)) else (spec_UndoFeed.j0 k l0 a1 y142 false)) else (spec_UndoFeed.j0 k l0 a1 y142 true)) = some r := H
      have A8 := Aside0.mk A80
      clear A80
      by_cases c9 : t146 = true
      · subst c9
        have H1 : (if (l0.length : Int) > 0 then (if 0 ≤ (wrap64 ((l0.length : Int) - 1)) then (if (wrap64 ((l0.length : Int) - 1)) < (l0.length : Int) then (spec_UndoFeed.j0 k l0 a1 y142 (decide (((rd_T110 l0 (wrap64 ((l0.length : Int) - 1))).f0) ≥ a1))) else (none)) else (none)) else (spec_UndoFeed.j0 k l0 a1 y142 false)) = some r := by rw [if_pos rfl] at H; exact H
        clear H
        have H := H1
        clear H1
        by_cases c10 : (l0.length : Int) > 0
        · rw [if_pos c10] at H
          have c10b0 : decide (0 < (l0.length : Int)) = true := decide_eq_true c10
          have c10b1 : decide (0 < l0.length) = true := decide_eq_true (by omega)
          clear c10
          (first | rw [c10b0] | (simp only [i64_w, i32_w]; rw [c10b0]) | skip)
          obtain ⟨ji11, hji11⟩ : ∃ j_ : Int, (wrap64 ((l0.length : Int) - 1)) = j_ := ⟨_, rfl⟩
          replace H : (if 0 ≤ (ji11) then (if (ji11) < (l0.length : Int) then (spec_UndoFeed.j0 k l0 a1 y142 (decide (((rd_T110 l0 (ji11)).f0) ≥ a1))) else (none)) else (none)) = some r := by first | (rw [hji11] at H; exact H) | (simp only [hji11] at H ⊢; exact H)
          (try rw [hji11] at A6)
          (try rw [hji11] at A8)
          have hji11w : (IntKind.i64.wrap ((l0.length : Int) - 1)) = ji11 := (i64_w _).trans hji11
          by_cases c12 : 0 ≤ (ji11)
          · rw [if_pos c12] at H
            have c12b0 : decide (0 ≤ (ji11)) = true := decide_eq_true c12
            clear c12
            by_cases c13 : (ji11) < (l0.length : Int)
            · rw [if_pos c13] at H
              have c13b0 : decide ((ji11) < (l0.length : Int)) = true := decide_eq_true c13
              clear c13
              have H' := Aside0.mk H
              clear H
              go_wp2_with (first | ((with_reducible refine gate_callee (f := 78) rfl ?_); refine gsl (some 9) rfl Try.func78 #[.slice A0 l0.length c0] rfl ?_; (with_reducible refine (spec_FeedValid.calls k _ _ l0 true _ ?side1 ?side2 A6.out).mono ?_); (case side1 => exact cc (Kd.C_below HR0.out HB.out)); (case side2 => exact HC0.out); rintro e w14 ⟨rfl, hb⟩; refine ⟨_, rfl, ?_⟩; have n0_ := Aside0.mk (Kd.R_below (kr (HO144.out)) hb); have n1_ := an0 HB hb; clear HO144; clear HB; have HO144 := n0_; have HB := n1_; clear n0_ n1_; (try clear hb); (try clear hb2); (try clear hk); (try clear hi)) | (go_at_call 71; (with_reducible refine (spec_l1In.calls a1 0 24 true _ A8.out).mono ?_); rintro e w' ⟨rfl, ⟨nd, rfl⟩⟩; have p147 : 0 ≤ ((ji11) : Int) := of_decide_eq_true (by first | (with_reducible assumption) | assumption); have q147 : (ji11) < (l0.length : Int) := of_decide_eq_true (by first | (with_reducible assumption) | assumption); obtain ⟨ad147, e147, hx147_0, hx147_1, hx147_2, hx147_3⟩ := at_T110 HR0.out (ji11) p147 q147; cases e147; replace hx147_0 := hcx HB hx147_0; replace hx147_1 := hcx HB hx147_1; replace hx147_2 := hcx HB hx147_2; replace hx147_3 := hcx HB hx147_3; replace p147 := eq_true p147; replace q147 := eq_true q147))
              first | go_meet | ((try subst hji11); go_meet)
              case rel => exact ⟨_, (decide (((rd_T110 l0 (ji11)).f0) ≥ a1)), (by first | rfl | (simp; done) | (simp only [← hji11] <;> (first | rfl | (simp; done) | (simp [bne_nil_, beq_nil_]; done))) | (simp [*]; done) | (simp [bne_nil_, beq_nil_]; done)), H', ⟨by first | omega | exact Nat.le_refl _⟩, ⟨by (with_reducible repeat (first | apply Kd.R_alloc | apply Kd.R_drewN | apply Kd.R_drew)); exact HO144.out⟩, ⟨bp HB.out⟩⟩
            · rw [if_neg c13] at H
              exact absurd H (by simp)
          · rw [if_neg c12] at H
            exact absurd H (by simp)
        · rw [if_neg c10] at H
          have c10b0 : decide (0 < (l0.length : Int)) = false := decide_eq_false c10
          have c10b1 : decide (0 < l0.length) = false := decide_eq_false (by omega)
          clear c10
          (first | rw [c10b0] | (simp only [i64_w, i32_w]; rw [c10b0]) | skip)
          have H' := Aside0.mk H
          clear H
          go_wp2_with (first | ((with_reducible refine gate_callee (f := 78) rfl ?_); refine gsl (some 9) rfl Try.func78 #[.slice A0 l0.length c0] rfl ?_; (with_reducible refine (spec_FeedValid.calls k _ _ l0 true _ ?side1 ?side2 A6.out).mono ?_); (case side1 => exact cc (Kd.C_below HR0.out HB.out)); (case side2 => exact HC0.out); rintro e w15 ⟨rfl, hb⟩; refine ⟨_, rfl, ?_⟩; have n0_ := Aside0.mk (Kd.R_below (kr (HO144.out)) hb); have n1_ := an0 HB hb; clear HO144; clear HB; have HO144 := n0_; have HB := n1_; clear n0_ n1_; (try clear hb); (try clear hb2); (try clear hk); (try clear hi)) | (go_at_call 71; (with_reducible refine (spec_l1In.calls a1 0 24 true _ A8.out).mono ?_); rintro e w' ⟨rfl, ⟨nd, rfl⟩⟩))
          go_meet
          case rel => exact ⟨_, (false), (by first | rfl | (simp; done) | (simp [*]; done) | (simp [bne_nil_, beq_nil_]; done)), H', ⟨by first | omega | exact Nat.le_refl _⟩, ⟨by (with_reducible repeat (first | apply Kd.R_alloc | apply Kd.R_drewN | apply Kd.R_drew)); exact HO144.out⟩, ⟨bp HB.out⟩⟩
      · replace c9 := Bool.eq_false_iff.mpr c9
        subst c9
        have H1 : (spec_UndoFeed.j0 k l0 a1 y142 true) = some r := by rw [if_neg (show ¬ (false = true) by decide)] at H; exact H
        clear H
        have H := H1
        clear H1
        have H' := Aside0.mk H
        clear H
        go_wp2_with (first | ((with_reducible refine gate_callee (f := 78) rfl ?_); refine gsl (some 9) rfl Try.func78 #[.slice A0 l0.length c0] rfl ?_; (with_reducible refine (spec_FeedValid.calls k _ _ l0 true _ ?side1 ?side2 A6.out).mono ?_); (case side1 => exact cc (Kd.C_below HR0.out HB.out)); (case side2 => exact HC0.out); rintro e w16 ⟨rfl, hb⟩; refine ⟨_, rfl, ?_⟩; have n0_ := Aside0.mk (Kd.R_below (kr (HO144.out)) hb); have n1_ := an0 HB hb; clear HO144; clear HB; have HO144 := n0_; have HB := n1_; clear n0_ n1_; (try clear hb); (try clear hb2); (try clear hk); (try clear hi)) | (go_at_call 71; (with_reducible refine (spec_l1In.calls a1 0 24 false _ A8.out).mono ?_); rintro e w' ⟨rfl, ⟨nd, rfl⟩⟩))
        go_meet
        case rel => exact ⟨_, (true), (by first | rfl | (simp; done) | (simp [*]; done) | (simp [bne_nil_, beq_nil_]; done)), H', ⟨by first | omega | exact Nat.le_refl _⟩, ⟨by (with_reducible repeat (first | apply Kd.R_alloc | apply Kd.R_drewN | apply Kd.R_drew)); exact HO144.out⟩, ⟨bp HB.out⟩⟩
    · replace c7 := Bool.eq_false_iff.mpr c7
      subst c7
      have H1 : (spec_UndoFeed.j0 k l0 a1 y142 true) = some r := by rw [if_neg (show ¬ (false = true) by decide)] at H; exact H
      clear H
      have H := H1
      clear H1
      have H' := Aside0.mk H
      clear H
      go_wp2_with (first | ((with_reducible refine gate_callee (f := 78) rfl ?_); refine gsl (some 9) rfl Try.func78 #[.slice A0 l0.length c0] rfl ?_; (with_reducible refine (spec_FeedValid.calls k _ _ l0 false _ ?side1 ?side2 A6.out).mono ?_); (case side1 => exact cc (Kd.C_below HR0.out HB.out)); (case side2 => exact HC0.out); rintro e w17 ⟨rfl, hb⟩; refine ⟨_, rfl, ?_⟩; have n0_ := Aside0.mk (Kd.R_below (kr (HO144.out)) hb); have n1_ := an0 HB hb; clear HO144; clear HB; have HO144 := n0_; have HB := n1_; clear n0_ n1_; (try clear hb); (try clear hb2); (try clear hk); (try clear hi)))
      go_meet
      case rel => exact ⟨_, (true), (by first | rfl | (simp; done) | (simp [*]; done) | (simp [bne_nil_, beq_nil_]; done)), H', ⟨by first | omega | exact Nat.le_refl _⟩, ⟨by (with_reducible repeat (first | apply Kd.R_alloc | apply Kd.R_drewN | apply Kd.R_drew)); exact HO144.out⟩, ⟨bp HB.out⟩⟩
  case rest =>
    clear HC3
    try clear c1
    try clear p1
    try clear q1
    try clear hx1
    try clear p2
    try clear c3
    try clear p6
    try clear c7
    try clear c9
    try clear c10
    try clear c10b0
    try clear c10b1
    try clear c12
    try clear c12b0
    try clear c13
    try clear c13b0
    try clear p14
    try clear q14
    try clear hx14
    try clear hx147_0
    try clear hx147_1
    try clear hx147_2
    try clear hx147_3
    try clear p147
    try clear q147
    obtain ⟨kq, x31_2, rfl, HA, HJ2, HO_5, HB⟩ := hcut
    cases kq with
    | zero => exact absurd HA.out (by simp [spec_UndoFeed.j0])
    | succ kj2 =>
      have H := HA.out
      clear HA
      simp only [spec_UndoFeed.j0] at H
      by_cases c18 : x31_2 = true
      · subst c18
        have H1 : (some y142) = some r := by rw [if_pos rfl] at H; exact H
        clear H
        have H := H1
        clear H1
        obtain rfl := Option.some.inj H
        go_wp2
        go_ret
        exact ⟨_, fe, by (with_reducible repeat (first | apply Kd.R_alloc | apply Kd.R_drewN | apply Kd.R_drew)); exact HO_5.out, bp HB.out⟩
      · replace c18 := Bool.eq_false_iff.mpr c18
        subst c18
        have H1 : (spec_UndoFeed.l0 kj2 l0 a1 y142 (wrap64 ((l0.length : Int) - 1))) = some r := by rw [if_neg (show ¬ (false = true) by decide)] at H; exact H
        clear H
        have H := H1
        clear H1
        have H' := Aside0.mk H
        clear H
        go_wp2
        go_loopg [5, 6] kj2 (fun kq v5 v6 w' => ∃ (x5_2 : List (S110)) (x6_2 : Int), v6 = .int .i64 x6_2 ∧ Aside0 (spec_UndoFeed.l0 kq l0 a1 x5_2 x6_2 = some r) ∧ Aside0 (kq ≤ kj2) ∧ Aside0 (Kd.R k110 110 w' w.heap.size (fun _ => True) v5 x5_2) ∧ Aside0 (Below w.heap.size w w'))
        case atStart => exact ⟨(y142), (wrap64 ((l0.length : Int) - 1)), (by first | rfl | (simp; done) | (simp [*]; done) | (simp [bne_nil_, beq_nil_]; done)), H', ⟨Nat.le_refl _⟩, ⟨by (with_reducible repeat (first | apply Kd.R_alloc | apply Kd.R_drewN | apply Kd.R_drew)); exact HO_5.out⟩, ⟨bp HB.out⟩⟩
        case round =>
          clear H'
          try clear c1
          try clear p1
          try clear q1
          try clear hx1
          try clear p2
          try clear c3
          try clear p6
          try clear c7
          try clear c9
          try clear c10
          try clear c10b0
          try clear c10b1
          try clear c12
          try clear c12b0
          try clear c13
          try clear c13b0
          try clear p14
          try clear q14
          try clear hx14
          try clear c18
          try clear hx147_0
          try clear hx147_1
          try clear hx147_2
          try clear hx147_3
          try clear p1
          try clear p14
          try clear p147
          try clear p2
          try clear p6
          try clear q1
          try clear q14
          try clear q147
          obtain ⟨x5_2, x6_2, rfl, HA, HK2, HO_5, HB⟩ := hrel
          cases gk with
          | zero => exact absurd HA.out (by simp [spec_UndoFeed.l0])
          | succ k2 =>
            have H := HA.out
            clear HA
            simp only [spec_UndoFeed.l0] at H
            by_cases c19 : x6_2 ≥ 0
            · rw [if_pos c19] at H
              have c19b0 : decide (0 ≤ x6_2) = true := decide_eq_true c19
              clear c19
              by_cases c20 : 0 ≤ x6_2
              · rw [if_pos c20] at H
                have c20b0 : decide (0 ≤ x6_2) = true := decide_eq_true c20
                clear c20
                by_cases c21 : x6_2 < (l0.length : Int)
                · rw [if_pos c21] at H
                  have c21b0 : decide (x6_2 < (l0.length : Int)) = true := decide_eq_true c21
                  clear c21
                  by_cases c22 : x5_2.length < 3518437208883
                  · rw [if_pos c22] at H
                    have LMc22 := Aside0.mk c22
                    clear c22
                    obtain ⟨y152, hy152⟩ : ∃ y_ : List (S110), y_ = (x5_2 ++ [(⟨wrap64 ((wrap64 (a1 - 1)) - ((rd_T110 l0 x6_2).f0)), (rd_T110 l0 x6_2).f1, (rd_T110 l0 x6_2).f3, (rd_T110 l0 x6_2).f2⟩ : S110)]) := ⟨_, rfl⟩
                    replace H : (spec_UndoFeed.l0 k2 l0 a1 y152 (wrap64 (x6_2 - 1))) = some r := by first | (rw [hy152]; with_reducible exact H) | (have H2_ := (Option.bind_some _ _).symm.trans H; rw [hy152]; with_reducible exact H2_) | (have H2_ := (Option.bind_some _ _).symm.trans H; with_reducible exact H2_) | with_reducible exact H | (rw [hy152]; exact H) | exact H
                    have Ny152 := Aside0.mk hy152
                    clear hy152
                    have H' := Aside0.mk H
                    clear H
                    try go_wp2
                    have n0_ := Aside0.mk (Kd.R_drew HO_5.out)
                    have n1_ := Aside0.mk (below_drew1 HB.out)
                    clear HO_5
                    clear HB
                    have HO_5 := n0_
                    have HB := n1_
                    clear n0_ n1_
                    have p148 : 0 ≤ (x6_2 : Int) := of_decide_eq_true (by first | (with_reducible assumption) | assumption)
                    have q148 : x6_2 < (l0.length : Int) := of_decide_eq_true (by first | (with_reducible assumption) | assumption)
                    obtain ⟨ad148, e148, hx148_0, hx148_1, hx148_2, hx148_3⟩ := at_T110 HR0.out x6_2 p148 q148
                    have hw148_3 := hx148_3
                    have hw148_2 := hx148_2
                    have hw148_1 := hx148_1
                    have hw148_0 := hx148_0
                    cases e148
                    replace hx148_0 := hcx HB hx148_0
                    replace hx148_1 := hcx HB hx148_1
                    replace hx148_2 := hcx HB hx148_2
                    replace hx148_3 := hcx HB hx148_3
                    replace p148 := eq_true p148
                    replace q148 := eq_true q148
                    have p149 : 0 ≤ (x6_2 : Int) := of_decide_eq_true (by first | (with_reducible assumption) | assumption)
                    have q149 : x6_2 < (l0.length : Int) := of_decide_eq_true (by first | (with_reducible assumption) | assumption)
                    obtain ⟨ad149, e149, hx149_0, hx149_1, hx149_2, hx149_3⟩ := at_T110 HR0.out x6_2 p149 q149
                    have hw149_3 := hx149_3
                    have hw149_2 := hx149_2
                    have hw149_1 := hx149_1
                    have hw149_0 := hx149_0
                    obtain rfl : ad148 = ad149 := (by injection e149)
                    replace hx149_0 := hcx HB hx149_0
                    replace hx149_1 := hcx HB hx149_1
                    replace hx149_2 := hcx HB hx149_2
                    replace hx149_3 := hcx HB hx149_3
                    replace p149 := eq_true p149
                    replace q149 := eq_true q149
                    have p150 : 0 ≤ (x6_2 : Int) := of_decide_eq_true (by first | (with_reducible assumption) | assumption)
                    have q150 : x6_2 < (l0.length : Int) := of_decide_eq_true (by first | (with_reducible assumption) | assumption)
                    obtain ⟨ad150, e150, hx150_0, hx150_1, hx150_2, hx150_3⟩ := at_T110 HR0.out x6_2 p150 q150
                    have hw150_3 := hx150_3
                    have hw150_2 := hx150_2
                    have hw150_1 := hx150_1
                    have hw150_0 := hx150_0
                    obtain rfl : ad148 = ad150 := (by injection e150)
                    replace hx150_0 := hcx HB hx150_0
                    replace hx150_1 := hcx HB hx150_1
                    replace hx150_2 := hcx HB hx150_2
                    replace hx150_3 := hcx HB hx150_3
                    replace p150 := eq_true p150
                    replace q150 := eq_true q150
                    have p151 : 0 ≤ (x6_2 : Int) := of_decide_eq_true (by first | (with_reducible assumption) | assumption)
                    have q151 : x6_2 < (l0.length : Int) := of_decide_eq_true (by first | (with_reducible assumption) | assumption)
                    obtain ⟨ad151, e151, hx151_0, hx151_1, hx151_2, hx151_3⟩ := at_T110 HR0.out x6_2 p151 q151
                    have hw151_3 := hx151_3
                    have hw151_2 := hx151_2
                    have hw151_1 := hx151_1
                    have hw151_0 := hx151_0
                    obtain rfl : ad148 = ad151 := (by injection e151)
                    replace hx151_0 := hcx HB hx151_0
                    replace hx151_1 := hcx HB hx151_1
                    replace hx151_2 := hcx HB hx151_2
                    replace hx151_3 := hcx HB hx151_3
                    replace p151 := eq_true p151
                    replace q151 := eq_true q151
                    refine start_ (n := 28) (S := fun w' => w'.cell? (ad148.add ((x6_2).toNat * 4)) = some (.int .i64 ((rd_T110 l0 x6_2).f0)) ∧ w'.cell? ⟨(ad148.add ((x6_2).toNat * 4)).block, (ad148.add ((x6_2).toNat * 4)).off + 1, none⟩ = some (.string ((rd_T110 l0 x6_2).f1)) ∧ w'.cell? ⟨(ad148.add ((x6_2).toNat * 4)).block, (ad148.add ((x6_2).toNat * 4)).off + 2, none⟩ = some (.int .i64 ((rd_T110 l0 x6_2).f2)) ∧ w'.cell? ⟨(ad148.add ((x6_2).toNat * 4)).block, (ad148.add ((x6_2).toNat * 4)).off + 3, none⟩ = some (.int .i64 ((rd_T110 l0 x6_2).f3)) ∧ w'.cell? (ad148.add ((x6_2).toNat * 4)) = some (.int .i64 ((rd_T110 l0 x6_2).f0)) ∧ w'.cell? ⟨(ad148.add ((x6_2).toNat * 4)).block, (ad148.add ((x6_2).toNat * 4)).off + 1, none⟩ = some (.string ((rd_T110 l0 x6_2).f1)) ∧ w'.cell? ⟨(ad148.add ((x6_2).toNat * 4)).block, (ad148.add ((x6_2).toNat * 4)).off + 2, none⟩ = some (.int .i64 ((rd_T110 l0 x6_2).f2)) ∧ w'.cell? ⟨(ad148.add ((x6_2).toNat * 4)).block, (ad148.add ((x6_2).toNat * 4)).off + 3, none⟩ = some (.int .i64 ((rd_T110 l0 x6_2).f3)) ∧ w'.cell? (ad148.add ((x6_2).toNat * 4)) = some (.int .i64 ((rd_T110 l0 x6_2).f0)) ∧ w'.cell? ⟨(ad148.add ((x6_2).toNat * 4)).block, (ad148.add ((x6_2).toNat * 4)).off + 1, none⟩ = some (.string ((rd_T110 l0 x6_2).f1)) ∧ w'.cell? ⟨(ad148.add ((x6_2).toNat * 4)).block, (ad148.add ((x6_2).toNat * 4)).off + 2, none⟩ = some (.int .i64 ((rd_T110 l0 x6_2).f2)) ∧ w'.cell? ⟨(ad148.add ((x6_2).toNat * 4)).block, (ad148.add ((x6_2).toNat * 4)).off + 3, none⟩ = some (.int .i64 ((rd_T110 l0 x6_2).f3)) ∧ w'.cell? (ad148.add ((x6_2).toNat * 4)) = some (.int .i64 ((rd_T110 l0 x6_2).f0)) ∧ w'.cell? ⟨(ad148.add ((x6_2).toNat * 4)).block, (ad148.add ((x6_2).toNat * 4)).off + 1, none⟩ = some (.string ((rd_T110 l0 x6_2).f1)) ∧ w'.cell? ⟨(ad148.add ((x6_2).toNat * 4)).block, (ad148.add ((x6_2).toNat * 4)).off + 2, none⟩ = some (.int .i64 ((rd_T110 l0 x6_2).f2)) ∧ w'.cell? ⟨(ad148.add ((x6_2).toNat * 4)).block, (ad148.add ((x6_2).toNat * 4)).off + 3, none⟩ = some (.int .i64 ((rd_T110 l0 x6_2).f3))) (ds := []) #[false, false, false, false, false, false, false, false, false, false, false, false, false, false, false, false, false, false, false, false, false, false, false, false, false, false, false, false] (by kernel_rfl) rfl rfl ⟨(hcx HB hw148_0), (hcx HB hw148_1), (hcx HB hw148_2), (hcx HB hw148_3), (hcx HB hw149_0), (hcx HB hw149_1), (hcx HB hw149_2), (hcx HB hw149_3), (hcx HB hw150_0), (hcx HB hw150_1), (hcx HB hw150_2), (hcx HB hw150_3), (hcx HB hw151_0), (hcx HB hw151_1), (hcx HB hw151_2), (hcx HB hw151_3)⟩ (fun hHeld => ?_); refine with_tabW spec_UndoFeed.tab7 spec_UndoFeed.bits7 (fun HT_ HW_ => ?_)
                    generalize wr.drew = w23 at HO_5 HB hx148_0 hx148_1 hx148_2 hx148_3 hx149_0 hx149_1 hx149_2 hx149_3 hx150_0 hx150_1 hx150_2 hx150_3 hx151_0 hx151_1 hx151_2 hx151_3 hHeld ⊢
                    refine pur (i := 0) (N := some 40) #[true, false, false, false, false, false, false, false, false, false, false, false, false, false, false, false, false, false, false, false, false, false, false, false, false, false, false, false] rfl rfl HT_.out ?_
                    refine pur (i := 1) (N := some 41) #[true, true, false, false, false, false, false, false, false, false, false, false, false, false, false, false, false, false, false, false, false, false, false, false, false, false, false, false] rfl rfl HT_.out ?_
                    refine pur (i := 2) (N := some 42) #[true, true, true, false, false, false, false, false, false, false, false, false, false, false, false, false, false, false, false, false, false, false, false, false, false, false, false, false] rfl rfl HT_.out ?_
                    refine pur (i := 3) (N := some 43) #[true, true, true, true, false, false, false, false, false, false, false, false, false, false, false, false, false, false, false, false, false, false, false, false, false, false, false, false] rfl rfl HT_.out ?_
                    refine pur (i := 4) (N := some 44) #[true, true, true, true, true, false, false, false, false, false, false, false, false, false, false, false, false, false, false, false, false, false, false, false, false, false, false, false] rfl rfl HT_.out ?_
                    refine pur (i := 5) (N := some 45) #[true, true, true, true, true, true, false, false, false, false, false, false, false, false, false, false, false, false, false, false, false, false, false, false, false, false, false, false] rfl rfl HT_.out ?_
                    refine pur (i := 6) (N := some 46) #[true, true, true, true, true, true, true, false, false, false, false, false, false, false, false, false, false, false, false, false, false, false, false, false, false, false, false, false] rfl rfl HT_.out ?_
                    refine pur (i := 9) (N := some 49) #[true, true, true, true, true, true, true, false, false, true, false, false, false, false, false, false, false, false, false, false, false, false, false, false, false, false, false, false] rfl rfl HT_.out ?_
                    refine pur (i := 10) (N := some 50) #[true, true, true, true, true, true, true, false, false, true, true, false, false, false, false, false, false, false, false, false, false, false, false, false, false, false, false, false] rfl rfl HT_.out ?_
                    refine pur (i := 11) (N := some 51) #[true, true, true, true, true, true, true, false, false, true, true, true, false, false, false, false, false, false, false, false, false, false, false, false, false, false, false, false] rfl rfl HT_.out ?_
                    refine pur (i := 12) (N := some 52) #[true, true, true, true, true, true, true, false, false, true, true, true, true, false, false, false, false, false, false, false, false, false, false, false, false, false, false, false] rfl rfl HT_.out ?_
                    refine pur (i := 14) (N := some 54) #[true, true, true, true, true, true, true, false, false, true, true, true, true, false, true, false, false, false, false, false, false, false, false, false, false, false, false, false] rfl rfl HT_.out ?_
                    refine pur (i := 15) (N := some 55) #[true, true, true, true, true, true, true, false, false, true, true, true, true, false, true, true, false, false, false, false, false, false, false, false, false, false, false, false] rfl rfl HT_.out ?_
                    refine pur (i := 16) (N := some 56) #[true, true, true, true, true, true, true, false, false, true, true, true, true, false, true, true, true, false, false, false, false, false, false, false, false, false, false, false] rfl rfl HT_.out ?_
                    refine pur (i := 17) (N := some 57) #[true, true, true, true, true, true, true, false, false, true, true, true, true, false, true, true, true, true, false, false, false, false, false, false, false, false, false, false] rfl rfl HT_.out ?_
                    refine pur (i := 19) (N := some 59) #[true, true, true, true, true, true, true, false, false, true, true, true, true, false, true, true, true, true, false, true, false, false, false, false, false, false, false, false] rfl rfl HT_.out ?_
                    refine pur (i := 20) (N := some 60) #[true, true, true, true, true, true, true, false, false, true, true, true, true, false, true, true, true, true, false, true, true, false, false, false, false, false, false, false] rfl rfl HT_.out ?_
                    refine pur (i := 21) (N := some 61) #[true, true, true, true, true, true, true, false, false, true, true, true, true, false, true, true, true, true, false, true, true, true, false, false, false, false, false, false] rfl rfl HT_.out ?_
                    refine pur (i := 22) (N := some 62) #[true, true, true, true, true, true, true, false, false, true, true, true, true, false, true, true, true, true, false, true, true, true, true, false, false, false, false, false] rfl rfl HT_.out ?_
                    refine take_ (i := 7) (N := some 47) (v := ?_) (a' := ?_) #[true, true, true, true, true, true, true, true, false, true, true, true, true, false, true, true, true, true, false, true, true, true, true, false, false, false, false, false] rfl rfl (take_ofW HT_.out HW_.out (by kernel_rfl)) (fun _ _ _ h => h) (Or.inl ⟨by rfl, ?_⟩) hHeld ?_ ?_
                    rotate_left
                    · rintro w' ⟨s0, s1, s2, s3, s4, s5, s6, s7, s8, s9, s10, s11, s12, s13, s14, s15⟩
                      go_simp
                      with_reducible rfl
                    rotate_left; focus (simp only [Act.put, List.setIfInBounds_toArray, List.set_cons_zero, List.set_cons_succ, i64_w, i32_w]; rfl)
                    refine pur (i := 8) (N := some 48) #[true, true, true, true, true, true, true, true, true, true, true, true, true, false, true, true, true, true, false, true, true, true, true, false, false, false, false, false] rfl rfl HT_.out ?_
                    refine take_ (i := 13) (N := some 53) (v := ?_) (a' := ?_) #[true, true, true, true, true, true, true, true, true, true, true, true, true, true, true, true, true, true, false, true, true, true, true, false, false, false, false, false] rfl rfl (take_ofW HT_.out HW_.out (by kernel_rfl)) (fun _ _ _ h => h) (Or.inl ⟨by rfl, ?_⟩) hHeld ?_ ?_
                    rotate_left
                    · rintro w' ⟨s0, s1, s2, s3, s4, s5, s6, s7, s8, s9, s10, s11, s12, s13, s14, s15⟩
                      go_simp
                      with_reducible rfl
                    rotate_left; focus (simp only [Act.put, List.setIfInBounds_toArray, List.set_cons_zero, List.set_cons_succ, i64_w, i32_w]; rfl)
                    refine take_ (i := 18) (N := some 58) (v := ?_) (a' := ?_) #[true, true, true, true, true, true, true, true, true, true, true, true, true, true, true, true, true, true, true, true, true, true, true, false, false, false, false, false] rfl rfl (take_ofW HT_.out HW_.out (by kernel_rfl)) (fun _ _ _ h => h) (Or.inl ⟨by rfl, ?_⟩) hHeld ?_ ?_
                    rotate_left
                    · rintro w' ⟨s0, s1, s2, s3, s4, s5, s6, s7, s8, s9, s10, s11, s12, s13, s14, s15⟩
                      go_simp
                      with_reducible rfl
                    rotate_left; focus (simp only [Act.put, List.setIfInBounds_toArray, List.set_cons_zero, List.set_cons_succ, i64_w, i32_w]; rfl)
                    refine take_ (i := 23) (N := some 63) (v := ?_) (a' := ?_) #[true, true, true, true, true, true, true, true, true, true, true, true, true, true, true, true, true, true, true, true, true, true, true, true, false, false, false, false] rfl rfl (take_ofW HT_.out HW_.out (by kernel_rfl)) (fun _ _ _ h => h) (Or.inl ⟨by rfl, ?_⟩) hHeld ?_ ?_
                    rotate_left
                    · rintro w' ⟨s0, s1, s2, s3, s4, s5, s6, s7, s8, s9, s10, s11, s12, s13, s14, s15⟩
                      go_simp
                      with_reducible rfl
                    rotate_left; focus (simp only [Act.put, List.setIfInBounds_toArray, List.set_cons_zero, List.set_cons_succ, i64_w, i32_w]; rfl)
                    refine pur (i := 24) (N := some 64) #[true, true, true, true, true, true, true, true, true, true, true, true, true, true, true, true, true, true, true, true, true, true, true, true, true, false, false, false] rfl rfl HT_.out ?_
                    refine one_ (i := 25) (N := some 65) #[true, true, true, true, true, true, true, true, true, true, true, true, true, true, true, true, true, true, true, true, true, true, true, true, true, true, false, false] rfl rfl (one_of HT_.out (by kernel_rfl)) (by decide) (fun K hK => ?_)
                    refine value_ (w1 := ?_) (v := ?_) (by rfl) rfl ?_ ?_
                    rotate_left 2
                    · go_simp
                      constructor
                      · rfl
                      · rfl
                    refine hK.out _ _ ⟨(World.cell?_alloc_lt _ _ _ (World.block_lt_of_cell? _ _ ((hcx HB hw148_0)))).trans ((hcx HB hw148_0)), (World.cell?_alloc_lt _ _ _ (World.block_lt_of_cell? _ _ ((hcx HB hw148_1)))).trans ((hcx HB hw148_1)), (World.cell?_alloc_lt _ _ _ (World.block_lt_of_cell? _ _ ((hcx HB hw148_2)))).trans ((hcx HB hw148_2)), (World.cell?_alloc_lt _ _ _ (World.block_lt_of_cell? _ _ ((hcx HB hw148_3)))).trans ((hcx HB hw148_3)), (World.cell?_alloc_lt _ _ _ (World.block_lt_of_cell? _ _ ((hcx HB hw149_0)))).trans ((hcx HB hw149_0)), (World.cell?_alloc_lt _ _ _ (World.block_lt_of_cell? _ _ ((hcx HB hw149_1)))).trans ((hcx HB hw149_1)), (World.cell?_alloc_lt _ _ _ (World.block_lt_of_cell? _ _ ((hcx HB hw149_2)))).trans ((hcx HB hw149_2)), (World.cell?_alloc_lt _ _ _ (World.block_lt_of_cell? _ _ ((hcx HB hw149_3)))).trans ((hcx HB hw149_3)), (World.cell?_alloc_lt _ _ _ (World.block_lt_of_cell? _ _ ((hcx HB hw150_0)))).trans ((hcx HB hw150_0)), (World.cell?_alloc_lt _ _ _ (World.block_lt_of_cell? _ _ ((hcx HB hw150_1)))).trans ((hcx HB hw150_1)), (World.cell?_alloc_lt _ _ _ (World.block_lt_of_cell? _ _ ((hcx HB hw150_2)))).trans ((hcx HB hw150_2)), (World.cell?_alloc_lt _ _ _ (World.block_lt_of_cell? _ _ ((hcx HB hw150_3)))).trans ((hcx HB hw150_3)), (World.cell?_alloc_lt _ _ _ (World.block_lt_of_cell? _ _ ((hcx HB hw151_0)))).trans ((hcx HB hw151_0)), (World.cell?_alloc_lt _ _ _ (World.block_lt_of_cell? _ _ ((hcx HB hw151_1)))).trans ((hcx HB hw151_1)), (World.cell?_alloc_lt _ _ _ (World.block_lt_of_cell? _ _ ((hcx HB hw151_2)))).trans ((hcx HB hw151_2)), (World.cell?_alloc_lt _ _ _ (World.block_lt_of_cell? _ _ ((hcx HB hw151_3)))).trans ((hcx HB hw151_3))⟩ (fun hHeld => ?_)
                    clear hK K
                    refine norm_ (a' := ?_) ?_ ?_
                    rotate_left
                    · show Act.put _ (some 65) _ = _
                      simp only [Act.put, List.setIfInBounds_toArray, List.set_cons_zero, List.set_cons_succ, i64_w, i32_w]
                      rfl
                    refine one_ (i := 26) (N := some 66) #[true, true, true, true, true, true, true, true, true, true, true, true, true, true, true, true, true, true, true, true, true, true, true, true, true, true, true, false] rfl rfl (one_of HT_.out (by kernel_rfl)) (by decide) (fun K hK => ?_)
                    refine Kd.R_append_step k110 (w0 := w) w.heap.size (by rfl) (.tmp 40) (.tmp 65) 38 110 (.agg #[(.int .i64 0), (.string ⟨#[]⟩), (.int .i64 0), (.int .i64 0)]) 40 rfl Try.underlying38 info110 rfl (by decide) (by omega) u5 x5_2 (⟨wrap64 ((wrap64 (a1 - 1)) - ((rd_T110 l0 x6_2).f0)), (rd_T110 l0 x6_2).f1, (rd_T110 l0 x6_2).f3, (rd_T110 l0 x6_2).f2⟩ : S110) [.int .i64 (wrap64 ((wrap64 (a1 - 1)) - ((rd_T110 l0 x6_2).f0))), .string ((rd_T110 l0 x6_2).f1), .int .i64 ((rd_T110 l0 x6_2).f3), .int .i64 ((rd_T110 l0 x6_2).f2)] (fun _ => True) (fun _ => False) rfl rfl ?aP (fun _ hk => hk.elim) ?aF ?aO ?aB ?aS ?aL ?_
                    (case aP => exact k110_mkM _ _ _ (⟨wrap64 ((wrap64 (a1 - 1)) - ((rd_T110 l0 x6_2).f0)), (rd_T110 l0 x6_2).f1, (rd_T110 l0 x6_2).f3, (rd_T110 l0 x6_2).f2⟩ : S110))
                    (case aB => exact (bp HB.out))
                    (case aF => exact (fun _ _ => trivial))
                    (case aO => exact (kr (HO_5.out)))
                    (case aS => exact (below_size (bp HB.out)))
                    (case aL => have := LMc22.out; omega)
                    intro v153 w24 ho hb hg hat
                    rw [← Ny152.out] at ho
                    have n0_ := Aside0.mk (hb)
                    have n1_ := Aside0.mk (ho)
                    clear HB
                    clear HO_5
                    have HB := n0_
                    have HO154 := n1_
                    clear n0_ n1_
                    clear ho hb hg hat
                    refine hK.out _ _ ⟨(hcx HB hw148_0), (hcx HB hw148_1), (hcx HB hw148_2), (hcx HB hw148_3), (hcx HB hw149_0), (hcx HB hw149_1), (hcx HB hw149_2), (hcx HB hw149_3), (hcx HB hw150_0), (hcx HB hw150_1), (hcx HB hw150_2), (hcx HB hw150_3), (hcx HB hw151_0), (hcx HB hw151_1), (hcx HB hw151_2), (hcx HB hw151_3)⟩ (fun hHeld => ?_)
                    clear hK K
                    refine norm_ (a' := ?_) ?_ ?_
                    rotate_left
                    · show Act.put _ (some 66) _ = _
                      simp only [Act.put, List.setIfInBounds_toArray, List.set_cons_zero, List.set_cons_succ, i64_w, i32_w]
                      rfl
                    refine pur (i := 27) (N := some 5) #[true, true, true, true, true, true, true, true, true, true, true, true, true, true, true, true, true, true, true, true, true, true, true, true, true, true, true, true] rfl rfl HT_.out ?_
                    refine done_ (done_of HT_.out (by kernel_rfl)) ?_
                    try go_wp2
                    go_roundg k2
                    case measure => have := HJ2.out; have := HK2.out; omega
                    case rel => exact ⟨(y152), (wrap64 (x6_2 - 1)), (by first | rfl | (simp; done) | (simp [*]; done) | (simp [bne_nil_, beq_nil_]; done)), H', ⟨by have := HJ2.out; have := HK2.out; omega⟩, ⟨by (with_reducible repeat (first | apply Kd.R_alloc | apply Kd.R_drewN | apply Kd.R_drew)); exact HO154.out⟩, ⟨bp HB.out⟩⟩
                  · rw [if_neg c22] at H
                    exact absurd H (by simp)
                · rw [if_neg c21] at H
                  exact absurd H (by simp)
              · rw [if_neg c20] at H
                exact absurd H (by simp)
            · rw [if_neg c19] at H
              have c19b0 : decide (0 ≤ x6_2) = false := decide_eq_false c19
              clear c19
              obtain rfl := Option.some.inj H
              go_wp2
              go_ret
              exact ⟨_, fe, by (with_reducible repeat (first | apply Kd.R_alloc | apply Kd.R_drewN | apply Kd.R_drew)); exact HO_5.out, bp HB.out⟩

/-! ### impl_lettersOnly: function 126 -/
def impl_lettersOnly.f : Nat → ByteArray → Option (Bool)
  | 0, _ => none
  | k + 1, a0 => if a0.toList = ([] : List UInt8) then (some true) else (if 0 < (a0.size : Int) then (if (bt a0 0) ≥ 97 then (if (bt a0 0) ≤ 122 then (if 1 ≤ (a0.size : Int) then ((impl_lettersOnly.f k (a0.extract 1 a0.size)).bind fun t155 => (some t155)) else (none)) else (some false)) else (some false)) else (none))
theorem impl_lettersOnly.mono_l : ∀ k, (∀ y0, LeO (impl_lettersOnly.f k y0) (impl_lettersOnly.f (k + 1) y0))
  | 0 => fun _ r h => by simp [impl_lettersOnly.f] at h
  | k + 1 => by
    have ih0 := impl_lettersOnly.mono_l k
    · intro y0
      unfold impl_lettersOnly.f
      repeat' first
      | (with_reducible exact ih0 _)
      | (with_reducible exact LeO.refl _)
      | (with_reducible exact LeO.none _)
      | (with_reducible refine LeO.ite ?_ ?_)
      | (with_reducible refine LeO.bind ?_ (fun _ => ?_))
      | exact ih0 _
      | exact LeO.none _
      | refine LeO.ite ?_ ?_
      | refine LeO.bind ?_ (fun _ => ?_)
theorem impl_lettersOnly.mono : ∀ a0 k, LeO (impl_lettersOnly.f k a0) (impl_lettersOnly.f (k + 1) a0) := by
  intro a0 k
  have ih0 := impl_lettersOnly.mono_l k
  exact ih0 a0
set_option maxHeartbeats 8000000 in
set_option maxRecDepth 100000 in
theorem impl_lettersOnly.calls (k : Nat) : ∀ (a0 : ByteArray) (r : Bool) (w : World) (h : impl_lettersOnly.f k a0 = some r),
    Calls Try.prog 126 #[.string a0] w fun e w' => e = .returned (.bool r) ∧ Drawn0 w w' := by
  induction k using Nat.strongRecOn with
  | _ k ih =>
  intro a0 r w h
  cases k with
  | zero => exact absurd h (by simp [impl_lettersOnly.f])
  | succ k =>
  simp only [impl_lettersOnly.f] at h
  have H : (if a0.toList = ([] : List UInt8) then (some true) else (if 0 < (a0.size : Int) then (if (bt a0 0) ≥ 97 then (if (bt a0 0) ≤ 122 then (if 1 ≤ (a0.size : Int) then ((impl_lettersOnly.f k (a0.extract 1 a0.size)).bind fun t155 => (some t155)) else (none)) else (some false)) else (some false)) else (none))) = some r := h
  clear h
  by_cases c2 : a0.toList = ([] : List UInt8)
  · rw [if_pos c2] at H
    have c2b0 : (a0.toList == ([] : List UInt8)) = true := beq_iff_eq.mpr c2
    have c2b1 : (a0.toList != ([] : List UInt8)) = false := bne_eq_false_iff_eq.mpr c2
    clear c2
    obtain rfl := Option.some.inj H
    go_enter Try.func126, Try.ntmps126
    go_wp2
    go_ret
    exact ⟨by first | rfl | (simp; done) | (simp [*]; done) | (simp [bne_nil_, beq_nil_]; done), by repeat (first | exact Drawn0.refl _ | apply Drawn0.step)⟩
  · rw [if_neg c2] at H
    have c2b0 : (a0.toList == ([] : List UInt8)) = false := beq_eq_false_iff_ne.mpr c2
    have c2b1 : (a0.toList != ([] : List UInt8)) = true := bne_iff_ne.mpr c2
    by_cases c3 : 0 < (a0.size : Int)
    · rw [if_pos c3] at H
      have c3b0 : decide (0 < (a0.size : Int)) = true := decide_eq_true c3
      have c3b1 : decide (0 < a0.size) = true := decide_eq_true (by omega)
      clear c3
      by_cases c5 : (bt a0 0) ≥ 97
      · rw [if_pos c5] at H
        have c5b0 : decide (97 ≤ (bt a0 0)) = true := decide_eq_true c5
        clear c5
        by_cases c7 : (bt a0 0) ≤ 122
        · rw [if_pos c7] at H
          have c7b0 : decide ((bt a0 0) ≤ 122) = true := decide_eq_true c7
          clear c7
          by_cases c8 : 1 ≤ (a0.size : Int)
          · rw [if_pos c8] at H
            have c8b0 := eq_true c8
            have c8b1 : decide (1 ≤ (a0.size : Int)) = true := decide_eq_true c8
            clear c8
            replace H := Option.bind_eq_some_iff.mp H
            obtain ⟨t155, A90, H⟩ := H
            replace H : (some t155) = some r := H
            have A9 := Aside0.mk A90
            clear A90
            obtain rfl := Option.some.inj H
            have p4 : 0 ≤ (0 : Int) := (by omega)
            have q4 : 0 < a0.size := (by have : (0 : Int) < (a0.size : Int) := of_decide_eq_true (by first | (with_reducible assumption) | assumption); omega)
            have hx4 : ∀ h : 0 < a0.size, ((a0[0]'h).toNat : Int) = bt a0 0 := bt_at a0 0
            clear p4
            have qi4 : (0 < (a0.size : Int)) = True := eq_true (of_decide_eq_true (by first | (with_reducible assumption) | assumption))
            replace q4 := eq_true q4
            have p6 : 0 ≤ (0 : Int) := (by omega)
            have q6 : 0 < a0.size := (by have : (0 : Int) < (a0.size : Int) := of_decide_eq_true (by first | (with_reducible assumption) | assumption); omega)
            have hx6 : ∀ h : 0 < a0.size, ((a0[0]'h).toNat : Int) = bt a0 0 := bt_at a0 0
            clear p6
            have qi6 : (0 < (a0.size : Int)) = True := eq_true (of_decide_eq_true (by first | (with_reducible assumption) | assumption))
            replace q6 := eq_true q6
            go_enter Try.func126, Try.ntmps126
            go_wp2_with (first | (go_at_call 126; (with_reducible refine (ih k (by omega) (a0.extract 1 a0.size) t155 _ A9.out).mono ?_); rintro e w' ⟨rfl, ⟨nd, rfl⟩⟩))
            go_ret
            exact ⟨by first | rfl | (simp; done) | (simp [*]; done) | (simp [bne_nil_, beq_nil_]; done), by repeat (first | exact Drawn0.refl _ | apply Drawn0.step)⟩
          · rw [if_neg c8] at H
            exact absurd H (by simp)
        · rw [if_neg c7] at H
          have c7b0 : decide ((bt a0 0) ≤ 122) = false := decide_eq_false c7
          clear c7
          obtain rfl := Option.some.inj H
          have p4 : 0 ≤ (0 : Int) := (by omega)
          have q4 : 0 < a0.size := (by have : (0 : Int) < (a0.size : Int) := of_decide_eq_true (by first | (with_reducible assumption) | assumption); omega)
          have hx4 : ∀ h : 0 < a0.size, ((a0[0]'h).toNat : Int) = bt a0 0 := bt_at a0 0
          clear p4
          have qi4 : (0 < (a0.size : Int)) = True := eq_true (of_decide_eq_true (by first | (with_reducible assumption) | assumption))
          replace q4 := eq_true q4
          have p6 : 0 ≤ (0 : Int) := (by omega)
          have q6 : 0 < a0.size := (by have : (0 : Int) < (a0.size : Int) := of_decide_eq_true (by first | (with_reducible assumption) | assumption); omega)
          have hx6 : ∀ h : 0 < a0.size, ((a0[0]'h).toNat : Int) = bt a0 0 := bt_at a0 0
          clear p6
          have qi6 : (0 < (a0.size : Int)) = True := eq_true (of_decide_eq_true (by first | (with_reducible assumption) | assumption))
          replace q6 := eq_true q6
          go_enter Try.func126, Try.ntmps126
          go_wp2
          go_ret
          exact ⟨by first | rfl | (simp; done) | (simp [*]; done) | (simp [bne_nil_, beq_nil_]; done), by repeat (first | exact Drawn0.refl _ | apply Drawn0.step)⟩
      · rw [if_neg c5] at H
        have c5b0 : decide (97 ≤ (bt a0 0)) = false := decide_eq_false c5
        clear c5
        obtain rfl := Option.some.inj H
        have p4 : 0 ≤ (0 : Int) := (by omega)
        have q4 : 0 < a0.size := (by have : (0 : Int) < (a0.size : Int) := of_decide_eq_true (by first | (with_reducible assumption) | assumption); omega)
        have hx4 : ∀ h : 0 < a0.size, ((a0[0]'h).toNat : Int) = bt a0 0 := bt_at a0 0
        clear p4
        have qi4 : (0 < (a0.size : Int)) = True := eq_true (of_decide_eq_true (by first | (with_reducible assumption) | assumption))
        replace q4 := eq_true q4
        go_enter Try.func126, Try.ntmps126
        go_wp2
        go_ret
        exact ⟨by first | rfl | (simp; done) | (simp [*]; done) | (simp [bne_nil_, beq_nil_]; done), by repeat (first | exact Drawn0.refl _ | apply Drawn0.step)⟩
    · rw [if_neg c3] at H
      exact absurd H (by simp)

/-! ### impl_KeyValid: function 67 -/
def impl_KeyValid.f (k : Nat) (a0 : ByteArray) : Option (Bool) := if (a0.size : Int) < 1 then (some false) else (if (a0.size : Int) > 4 then (some false) else ((impl_lettersOnly.f k a0).bind fun t156 => (some t156)))
theorem impl_KeyValid.mono : ∀ a0 k, LeO (impl_KeyValid.f k a0) (impl_KeyValid.f (k + 1) a0) := by
  intro a0 k
  unfold impl_KeyValid.f
  repeat' first
      | (with_reducible exact impl_lettersOnly.mono _ _)
      | (with_reducible exact LeO.refl _)
      | (with_reducible exact LeO.none _)
      | (with_reducible refine LeO.ite ?_ ?_)
      | (with_reducible refine LeO.bind ?_ (fun _ => ?_))
      | exact impl_lettersOnly.mono _ _
      | exact LeO.none _
      | refine LeO.ite ?_ ?_
      | refine LeO.bind ?_ (fun _ => ?_)
set_option maxHeartbeats 8000000 in
set_option maxRecDepth 100000 in
theorem impl_KeyValid.calls (k : Nat) (a0 : ByteArray) (r : Bool) (w : World) (h : impl_KeyValid.f k a0 = some r) :
    Calls Try.prog 67 #[.string a0] w fun e w' => e = .returned (.bool r) ∧ Drawn0 w w' := by
  have H : (if (a0.size : Int) < 1 then (some false) else (if (a0.size : Int) > 4 then (some false) else ((impl_lettersOnly.f k a0).bind fun t156 => (some t156)))) = some r := h
  clear h
  by_cases c2 : (a0.size : Int) < 1
  · rw [if_pos c2] at H
    have c2b0 : decide ((a0.size : Int) < 1) = true := decide_eq_true c2
    have c2b1 : decide (a0.size < 1) = true := decide_eq_true (by omega)
    clear c2
    obtain rfl := Option.some.inj H
    go_enter Try.func67, Try.ntmps67
    go_wp2
    go_ret
    exact ⟨by first | rfl | (simp; done) | (simp [*]; done) | (simp [bne_nil_, beq_nil_]; done), by repeat (first | exact Drawn0.refl _ | apply Drawn0.step)⟩
  · rw [if_neg c2] at H
    have c2b0 : decide ((a0.size : Int) < 1) = false := decide_eq_false c2
    have c2b1 : decide (a0.size < 1) = false := decide_eq_false (by omega)
    clear c2
    by_cases c3 : (a0.size : Int) > 4
    · rw [if_pos c3] at H
      have c3b0 : decide (4 < (a0.size : Int)) = true := decide_eq_true c3
      have c3b1 : decide (4 < a0.size) = true := decide_eq_true (by omega)
      clear c3
      obtain rfl := Option.some.inj H
      go_enter Try.func67, Try.ntmps67
      go_wp2
      go_ret
      exact ⟨by first | rfl | (simp; done) | (simp [*]; done) | (simp [bne_nil_, beq_nil_]; done), by repeat (first | exact Drawn0.refl _ | apply Drawn0.step)⟩
    · rw [if_neg c3] at H
      have c3b0 : decide (4 < (a0.size : Int)) = false := decide_eq_false c3
      have c3b1 : decide (4 < a0.size) = false := decide_eq_false (by omega)
      clear c3
      replace H := Option.bind_eq_some_iff.mp H
      obtain ⟨t156, A40, H⟩ := H
      replace H : (some t156) = some r := H
      have A4 := Aside0.mk A40
      clear A40
      obtain rfl := Option.some.inj H
      go_enter Try.func67, Try.ntmps67
      go_wp2_with (first | ((with_reducible refine gate_callee (f := 126) rfl ?_); refine gsl (some 12) rfl Try.func126 #[.string a0] rfl ?_; (with_reducible refine (impl_lettersOnly.calls k a0 t156 _ A4.out).mono ?_); rintro e w' ⟨rfl, ⟨nd, rfl⟩⟩; refine ⟨_, rfl, ?_⟩))
      go_ret
      exact ⟨by first | rfl | (simp; done) | (simp [*]; done) | (simp [bne_nil_, beq_nil_]; done), by repeat (first | exact Drawn0.refl _ | apply Drawn0.step)⟩

/-! ### impl_valueValid: function 68 -/
def impl_valueValid.f (a0 : Int) : Option (Bool) := if a0 ≥ 0 then (some (decide (a0 ≤ 999))) else (some false)
set_option maxHeartbeats 8000000 in
set_option maxRecDepth 100000 in
theorem impl_valueValid.calls (a0 : Int) (r : Bool) (w : World) (h : impl_valueValid.f a0 = some r) :
    Calls Try.prog 68 #[.int .i64 a0] w fun e w' => e = .returned (.bool r) ∧ Drawn0 w w' := by
  have H : (if a0 ≥ 0 then (some (decide (a0 ≤ 999))) else (some false)) = some r := h
  clear h
  by_cases c2 : a0 ≥ 0
  · rw [if_pos c2] at H
    have c2b0 : decide (0 ≤ a0) = true := decide_eq_true c2
    clear c2
    obtain rfl := Option.some.inj H
    go_enter Try.func68, Try.ntmps68
    go_wp2
    go_ret
    exact ⟨by first | rfl | (simp; done) | (simp [*]; done) | (simp [bne_nil_, beq_nil_]; done), by repeat (first | exact Drawn0.refl _ | apply Drawn0.step)⟩
  · rw [if_neg c2] at H
    have c2b0 : decide (0 ≤ a0) = false := decide_eq_false c2
    clear c2
    obtain rfl := Option.some.inj H
    go_enter Try.func68, Try.ntmps68
    go_wp2
    go_ret
    exact ⟨by first | rfl | (simp; done) | (simp [*]; done) | (simp [bne_nil_, beq_nil_]; done), by repeat (first | exact Drawn0.refl _ | apply Drawn0.step)⟩

end Go.Proofs.Ytkejaolfbejokaa.PFnExactUndoFeed
