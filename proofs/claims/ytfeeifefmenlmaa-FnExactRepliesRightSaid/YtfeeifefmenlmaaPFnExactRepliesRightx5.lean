-- Written by a program of this session, in the manner of the kit's print (wip/pp.py): functions and their contracts.
import Derived.Test.YtfeeifefmenlmaaPFnExactRepliesRightx0
import Derived.Test.YtfeeifefmenlmaaPFnExactRepliesRightx1
import Derived.Test.YtfeeifefmenlmaaPFnExactRepliesRightx2
import Derived.Test.YtfeeifefmenlmaaPFnExactRepliesRightx4
namespace Go.Proofs.Ytfeeifefmenlmaa.PFnExactRepliesRight
open Go.RowKit Go.Proofs.YtfeeifefmenlmaaW.PrintWords Go.Proofs.YtfeeifefmenlmaaW.PrintLast Go.Proofs.YtfeeifefmenlmaaW.PrintMore
attribute [local go_sem] binOp_leq_str binOp_gtr_str binOp_geq_str max2_int min2_int max_two min_two max_three min_three max_four min_four   -- for this text's walks alone
set_option linter.unusedVariables false
set_option linter.unusedSimpArgs false

/-! ### spec_RunHistory: function 118 -/
mutual
def spec_RunHistory.l0 : Nat → List (S140) → List (S29) → Int → Option ((List (S29)) × Bool)
  | 0, _, _, _ => none
  | k + 1, x0, x4, x5 => if x5 < (x0.length : Int) then (if x5 ≥ 200 then (some ((([] : List (S29))), false)) else (if 0 ≤ x5 then ((spec_EntryValid.f k ((rd_T140 x0 x5).f0.f0) ((rd_T140 x0 x5).f0.f1) ((rd_T140 x0 x5).f0.f2.f0) ((rd_T140 x0 x5).f0.f2.f1) ((rd_T140 x0 x5).f0.f2.f2) ((rd_T140 x0 x5).f0.f2.f3)).bind fun t221 => (if t221 = true then (if ((rd_T140 x0 x5).f0.f2.f0) = 5 then (some ((([] : List (S29))), false)) else (spec_RunHistory.l0 k x0 x4 (wrap64 (x5 + 1)))) else (some ((([] : List (S29))), false)))) else (none))) else (spec_RunHistory.l1 k x0 x4 0)
def spec_RunHistory.l1 : Nat → List (S140) → List (S29) → Int → Option ((List (S29)) × Bool)
  | 0, _, _, _ => none
  | k + 1, x0, x4, x6 => if x6 < (x0.length : Int) then (if 0 ≤ x6 then ((spec_l29one.f k x4 ((rd_T140 x0 x6).f0.f0) ((rd_T140 x0 x6).f0.f1) ((rd_T140 x0 x6).f0.f2.f0) ((rd_T140 x0 x6).f0.f2.f1) ((rd_T140 x0 x6).f0.f2.f2) ((rd_T140 x0 x6).f0.f2.f3) ((rd_T140 x0 x6).f1)).bind fun bt230 => (if bt230.2 = true then (spec_RunHistory.l1 k x0 bt230.1 (wrap64 (x6 + 1))) else (some ((([] : List (S29))), false)))) else (none)) else (some (x4, true))
end
def spec_RunHistory.f (k : Nat) (l0 : List (S140)) : Option ((List (S29)) × Bool) := spec_RunHistory.l0 k l0 (([] : List (S29))) 0
theorem spec_RunHistory.mono_l : ∀ k, (∀ y0 y1 y2, LeO (spec_RunHistory.l0 k y0 y1 y2) (spec_RunHistory.l0 (k + 1) y0 y1 y2)) ∧ (∀ y0 y1 y2, LeO (spec_RunHistory.l1 k y0 y1 y2) (spec_RunHistory.l1 (k + 1) y0 y1 y2))
  | 0 => ⟨fun _ _ _ r h => by simp [spec_RunHistory.l0] at h, fun _ _ _ r h => by simp [spec_RunHistory.l1] at h⟩
  | k + 1 => by
    obtain ⟨ih0, ih1⟩ := spec_RunHistory.mono_l k
    refine ⟨?_, ?_⟩
    · intro y0 y1 y2
      unfold spec_RunHistory.l0
      repeat' first
      | (with_reducible exact ih0 _ _ _)
      | (with_reducible exact ih1 _ _ _)
      | (with_reducible exact spec_EntryValid.mono _ _ _ _ _ _ _)
      | (with_reducible exact spec_l29one.mono _ _ _ _ _ _ _ _ _)
      | (with_reducible exact LeO.refl _)
      | (with_reducible exact LeO.none _)
      | (with_reducible refine LeO.ite ?_ ?_)
      | (with_reducible refine LeO.bind ?_ (fun _ => ?_))
      | exact ih0 _ _ _
      | exact ih1 _ _ _
      | exact spec_EntryValid.mono _ _ _ _ _ _ _
      | exact spec_l29one.mono _ _ _ _ _ _ _ _ _
      | exact LeO.none _
      | refine LeO.ite ?_ ?_
      | refine LeO.bind ?_ (fun _ => ?_)
    · intro y0 y1 y2
      unfold spec_RunHistory.l1
      repeat' first
      | (with_reducible exact ih0 _ _ _)
      | (with_reducible exact ih1 _ _ _)
      | (with_reducible exact spec_EntryValid.mono _ _ _ _ _ _ _)
      | (with_reducible exact spec_l29one.mono _ _ _ _ _ _ _ _ _)
      | (with_reducible exact LeO.refl _)
      | (with_reducible exact LeO.none _)
      | (with_reducible refine LeO.ite ?_ ?_)
      | (with_reducible refine LeO.bind ?_ (fun _ => ?_))
      | exact ih0 _ _ _
      | exact ih1 _ _ _
      | exact spec_EntryValid.mono _ _ _ _ _ _ _
      | exact spec_l29one.mono _ _ _ _ _ _ _ _ _
      | exact LeO.none _
      | refine LeO.ite ?_ ?_
      | refine LeO.bind ?_ (fun _ => ?_)
theorem spec_RunHistory.mono : ∀ a0 k, LeO (spec_RunHistory.f k a0) (spec_RunHistory.f (k + 1) a0) := by
  intro a0 k
  obtain ⟨ih0, ih1⟩ := spec_RunHistory.mono_l k
  unfold spec_RunHistory.f
  repeat' first
      | (with_reducible exact ih0 _ _ _)
      | (with_reducible exact ih1 _ _ _)
      | (with_reducible exact spec_EntryValid.mono _ _ _ _ _ _ _)
      | (with_reducible exact spec_l29one.mono _ _ _ _ _ _ _ _ _)
      | (with_reducible exact LeO.refl _)
      | (with_reducible exact LeO.none _)
      | (with_reducible refine LeO.ite ?_ ?_)
      | (with_reducible refine LeO.bind ?_ (fun _ => ?_))
      | exact ih0 _ _ _
      | exact ih1 _ _ _
      | exact spec_EntryValid.mono _ _ _ _ _ _ _
      | exact spec_l29one.mono _ _ _ _ _ _ _ _ _
      | exact LeO.none _
      | refine LeO.ite ?_ ?_
      | refine LeO.bind ?_ (fun _ => ?_)
set_option maxHeartbeats 8000000 in
set_option maxRecDepth 100000 in
theorem spec_RunHistory.calls (k : Nat) (A0 : Option Addr) (c0 : Nat) (l0 : List (S140)) (r1 : List (S29)) (r2 : Bool) (w : World) (hr0 : Kd.C k140 w A0 l0.length l0) (hc0 : l0.length ≤ c0) (h : spec_RunHistory.f k l0 = some (r1, r2)) :
    Calls Try.prog 118 #[.slice A0 l0.length c0] w fun e w' => ∃ v0_ : Value, e = .returned (.tuple #[v0_, .bool r2]) ∧ Kd.R k29 29 w' w.heap.size (fun _ => True) v0_ r1 ∧ Below w.heap.size w w' := by
  have hu138 := Try.underlying138
  have hu140 := Try.underlying140
  have HR0 := Aside0.mk hr0
  have HC0 := Aside0.mk hc0
  clear hr0 hc0
  have HB := Aside0.mk (Below.refl w.heap.size w)
  have H : (spec_RunHistory.l0 k l0 (([] : List (S29))) 0) = some (r1, r2) := h
  clear h
  obtain ⟨y214, hy214⟩ : ∃ y_ : List (S29), y_ = (([] : List (S29))) := ⟨_, rfl⟩
  replace H : (spec_RunHistory.l0 k l0 y214 0) = some (r1, r2) := by first | (rw [hy214]; with_reducible exact H) | (have H2_ := (Option.bind_some _ _).symm.trans H; rw [hy214]; with_reducible exact H2_) | (have H2_ := (Option.bind_some _ _).symm.trans H; with_reducible exact H2_) | with_reducible exact H | (rw [hy214]; exact H) | exact H
  have Ny214 := Aside0.mk hy214
  clear hy214
  have H' := Aside0.mk H
  clear H
  go_enter Try.func118, Try.ntmps118
  go_wp2_with (first | ((with_reducible refine gate_dst (N := 9) rfl ?_); refine Kd.R_lit k29 _ 29 ?hg (N := 9) ?hd (xs := ([] : List (S29))) (inner := []) (ok := fun _ => True) (okp := fun _ => True) ?hr ?hp (fun _ hk => hk) trivial (Below.refl _ _) (Nat.le_refl _) (by simp) ?_; (case hd => rfl); (case hg => rfl); (case hr => first | (go_simp; done) | (go_simp; rfl)); (case hp => exact (Reps.none _ _)); intro v215 w2 ho3 hb hg_ hnew_; clear hg_ hnew_; (first | rw [← Ny214.out] at ho3 | (simp only [Int.reduceToNat] at ho3; rw [← Ny214.out] at ho3)); have n0_ := Aside0.mk (Kd.R_lower ho3 (below_size (bp HB.out))); have n1_ := an0 HB hb; clear HB; have HO216 := n0_; have HB := n1_; clear n0_ n1_; clear hb ho3))
  go_loopg [5] k (fun kq v5 w' => ∃ (x5_1 : Int), v5 = .int .i64 x5_1 ∧ Aside0 (spec_RunHistory.l0 kq l0 y214 x5_1 = some (r1, r2)) ∧ Aside0 (kq ≤ k) ∧ Aside0 (Kd.R k29 29 w' w.heap.size (fun _ => True) v215 y214) ∧ Aside0 (Below w.heap.size w w'))
  case atStart => exact ⟨(0), (by first | rfl | (simp; done) | (simp [*]; done) | (simp [bne_nil_, beq_nil_]; done)), H', ⟨Nat.le_refl _⟩, ⟨by (with_reducible repeat (first | apply Kd.R_alloc | apply Kd.R_drewN | apply Kd.R_drew)); exact HO216.out⟩, ⟨bp HB.out⟩⟩
  case round =>
    clear H'
    try clear c1
    try clear p2
    obtain ⟨x5_1, rfl, HA, HK1, HO_4, HB⟩ := hrel
    cases gk with
    | zero => exact absurd HA.out (by simp [spec_RunHistory.l0])
    | succ k1 =>
      have H := HA.out
      clear HA
      simp only [spec_RunHistory.l0] at H
      by_cases c4 : x5_1 < (l0.length : Int)
      · rw [if_pos c4] at H
        have c4b0 : decide (x5_1 < (l0.length : Int)) = true := decide_eq_true c4
        clear c4
        by_cases c5 : x5_1 ≥ 200
        · rw [if_pos c5] at H
          have c5b0 : decide (200 ≤ x5_1) = true := decide_eq_true c5
          clear c5
          obtain ⟨y217, hy217⟩ : ∃ y_ : List (S29), y_ = (([] : List (S29))) := ⟨_, rfl⟩
          replace H : (some (y217, false)) = some (r1, r2) := by first | (rw [hy217]; with_reducible exact H) | (have H2_ := (Option.bind_some _ _).symm.trans H; rw [hy217]; with_reducible exact H2_) | (have H2_ := (Option.bind_some _ _).symm.trans H; with_reducible exact H2_) | with_reducible exact H | (rw [hy217]; exact H) | exact H
          have Ny217 := Aside0.mk hy217
          clear hy217
          simp only [Option.some.injEq, Prod.mk.injEq] at H
          obtain ⟨rfl, rfl⟩ := H
          go_wp2_with (first | ((with_reducible refine gate_dst (N := 37) rfl ?_); refine Kd.R_lit k29 _ 29 ?hg (N := 37) ?hd (xs := ([] : List (S29))) (inner := []) (ok := fun _ => True) (okp := fun _ => True) ?hr ?hp (fun _ hk => hk) trivial (Below.refl _ _) (Nat.le_refl _) (by simp) ?_; (case hd => rfl); (case hg => rfl); (case hr => first | (go_simp; done) | (go_simp; rfl)); (case hp => exact (Reps.none _ _)); intro v218 w6 ho7 hb hg_ hnew_; clear hg_ hnew_; (first | rw [← Ny217.out] at ho7 | (simp only [Int.reduceToNat] at ho7; rw [← Ny217.out] at ho7)); have n0_ := Aside0.mk (Kd.R_elder' (kr HO_4.out) (Kd.R_base ho7) hb); have n1_ := Aside0.mk (Kd.R_lower (Kd.R_new' ho7 (Kd.R_lt (kr HO_4.out))) (below_size (bp HB.out))); have n2_ := an0 HB hb; clear HO_4; clear HB; have HO_4 := n0_; have HO219 := n1_; have HB := n2_; clear n0_ n1_ n2_; clear hb ho7))
          go_ret2
          exact ⟨_, fe, by (with_reducible repeat (first | apply Kd.R_alloc | apply Kd.R_drewN | apply Kd.R_drew)); exact Kd.R_mono HO219.out (fun _ hk => trivial), bp HB.out⟩
        · rw [if_neg c5] at H
          have c5b0 : decide (200 ≤ x5_1) = false := decide_eq_false c5
          clear c5
          by_cases c8 : 0 ≤ x5_1
          · rw [if_pos c8] at H
            have c8b0 : decide (0 ≤ x5_1) = true := decide_eq_true c8
            clear c8
            replace H := Option.bind_eq_some_iff.mp H
            obtain ⟨t221, A90, H⟩ := H
            replace H : (if t221 = true then (if ((rd_T140 l0 x5_1).f0.f2.f0) = 5 then (some ((([] : List (S29))), false)) else (spec_RunHistory.l0 k1 l0 y214 (wrap64 (x5_1 + 1)))) else (some ((([] : List (S29))), false))) = some (r1, r2) := H
            have A9 := Aside0.mk A90
            clear A90
            by_cases c10 : t221 = true
            · subst c10
              have H1 : (if ((rd_T140 l0 x5_1).f0.f2.f0) = 5 then (some ((([] : List (S29))), false)) else (spec_RunHistory.l0 k1 l0 y214 (wrap64 (x5_1 + 1)))) = some (r1, r2) := by rw [if_pos rfl] at H; exact H
              clear H
              have H := H1
              clear H1
              by_cases c11 : ((rd_T140 l0 x5_1).f0.f2.f0) = 5
              · rw [if_pos c11] at H
                have c11b0 : (((rd_T140 l0 x5_1).f0.f2.f0) == 5) = true := beq_iff_eq.mpr c11
                have c11b1 : (((rd_T140 l0 x5_1).f0.f2.f0) != 5) = false := bne_eq_false_iff_eq.mpr c11
                clear c11
                obtain ⟨y223, hy223⟩ : ∃ y_ : List (S29), y_ = (([] : List (S29))) := ⟨_, rfl⟩
                replace H : (some (y223, false)) = some (r1, r2) := by first | (rw [hy223]; with_reducible exact H) | (have H2_ := (Option.bind_some _ _).symm.trans H; rw [hy223]; with_reducible exact H2_) | (have H2_ := (Option.bind_some _ _).symm.trans H; with_reducible exact H2_) | with_reducible exact H | (rw [hy223]; exact H) | exact H
                have Ny223 := Aside0.mk hy223
                clear hy223
                simp only [Option.some.injEq, Prod.mk.injEq] at H
                obtain ⟨rfl, rfl⟩ := H
                have p220 : 0 ≤ (x5_1 : Int) := of_decide_eq_true (by first | (with_reducible assumption) | assumption)
                have q220 : x5_1 < (l0.length : Int) := of_decide_eq_true (by first | (with_reducible assumption) | assumption)
                obtain ⟨ad220, e220, hx220_0, hx220_1, hx220_2, hx220_3, hx220_4, hx220_5, hx220_6⟩ := at_T140 HR0.out x5_1 p220 q220
                cases e220
                replace hx220_0 := hcx HB hx220_0
                replace hx220_1 := hcx HB hx220_1
                replace hx220_2 := hcx HB hx220_2
                replace hx220_3 := hcx HB hx220_3
                replace hx220_4 := hcx HB hx220_4
                replace hx220_5 := hcx HB hx220_5
                replace hx220_6 := hcx HB hx220_6
                replace p220 := eq_true p220
                replace q220 := eq_true q220
                go_wp2_with (first | (go_at_call 152; (with_reducible refine (spec_EntryValid.calls k1 ((rd_T140 l0 x5_1).f0.f0) ((rd_T140 l0 x5_1).f0.f1) ((rd_T140 l0 x5_1).f0.f2.f0) ((rd_T140 l0 x5_1).f0.f2.f1) ((rd_T140 l0 x5_1).f0.f2.f2) ((rd_T140 l0 x5_1).f0.f2.f3) true _ A9.out).mono ?_); rintro e w12 ⟨rfl, hb⟩; have n0_ := Aside0.mk (Kd.R_below (kr HO_4.out) hb); have n1_ := an0 HB hb; clear HO_4; clear HB; have HO_4 := n0_; have HB := n1_; clear n0_ n1_; (try clear hb); (try clear hb2); (try clear hk); (try clear hi); have p222 : 0 ≤ (x5_1 : Int) := of_decide_eq_true (by first | (with_reducible assumption) | assumption); have q222 : x5_1 < (l0.length : Int) := of_decide_eq_true (by first | (with_reducible assumption) | assumption); obtain ⟨ad222, e222, hx222_0, hx222_1, hx222_2, hx222_3, hx222_4, hx222_5, hx222_6⟩ := at_T140 HR0.out x5_1 p222 q222; obtain rfl : ad220 = ad222 := (by injection e222); replace hx222_0 := hcx HB hx222_0; replace hx222_1 := hcx HB hx222_1; replace hx222_2 := hcx HB hx222_2; replace hx222_3 := hcx HB hx222_3; replace hx222_4 := hcx HB hx222_4; replace hx222_5 := hcx HB hx222_5; replace hx222_6 := hcx HB hx222_6; replace p222 := eq_true p222; replace q222 := eq_true q222) | ((with_reducible refine gate_dst (N := 37) rfl ?_); refine Kd.R_lit k29 _ 29 ?hg (N := 37) ?hd (xs := ([] : List (S29))) (inner := []) (ok := fun _ => True) (okp := fun _ => True) ?hr ?hp (fun _ hk => hk) trivial (Below.refl _ _) (Nat.le_refl _) (by simp) ?_; (case hd => rfl); (case hg => rfl); (case hr => first | (go_simp; done) | (go_simp; rfl)); (case hp => exact (Reps.none _ _)); intro v224 w13 ho14 hb hg_ hnew_; clear hg_ hnew_; (first | rw [← Ny223.out] at ho14 | (simp only [Int.reduceToNat] at ho14; rw [← Ny223.out] at ho14)); have n0_ := Aside0.mk (Kd.R_elder' (kr HO_4.out) (Kd.R_base ho14) hb); have n1_ := Aside0.mk (Kd.R_lower (Kd.R_new' ho14 (Kd.R_lt (kr HO_4.out))) (below_size (bp HB.out))); have n2_ := an0 HB hb; clear HO_4; clear HB; have HO_4 := n0_; have HO225 := n1_; have HB := n2_; clear n0_ n1_ n2_; clear hb ho14))
                go_ret2
                exact ⟨_, fe, by (with_reducible repeat (first | apply Kd.R_alloc | apply Kd.R_drewN | apply Kd.R_drew)); exact Kd.R_mono HO225.out (fun _ hk => trivial), bp HB.out⟩
              · rw [if_neg c11] at H
                have c11b0 : (((rd_T140 l0 x5_1).f0.f2.f0) == 5) = false := beq_eq_false_iff_ne.mpr c11
                have c11b1 : (((rd_T140 l0 x5_1).f0.f2.f0) != 5) = true := bne_iff_ne.mpr c11
                have H' := Aside0.mk H
                clear H
                have p220 : 0 ≤ (x5_1 : Int) := of_decide_eq_true (by first | (with_reducible assumption) | assumption)
                have q220 : x5_1 < (l0.length : Int) := of_decide_eq_true (by first | (with_reducible assumption) | assumption)
                obtain ⟨ad220, e220, hx220_0, hx220_1, hx220_2, hx220_3, hx220_4, hx220_5, hx220_6⟩ := at_T140 HR0.out x5_1 p220 q220
                cases e220
                replace hx220_0 := hcx HB hx220_0
                replace hx220_1 := hcx HB hx220_1
                replace hx220_2 := hcx HB hx220_2
                replace hx220_3 := hcx HB hx220_3
                replace hx220_4 := hcx HB hx220_4
                replace hx220_5 := hcx HB hx220_5
                replace hx220_6 := hcx HB hx220_6
                replace p220 := eq_true p220
                replace q220 := eq_true q220
                go_wp2_with (first | (go_at_call 152; (with_reducible refine (spec_EntryValid.calls k1 ((rd_T140 l0 x5_1).f0.f0) ((rd_T140 l0 x5_1).f0.f1) ((rd_T140 l0 x5_1).f0.f2.f0) ((rd_T140 l0 x5_1).f0.f2.f1) ((rd_T140 l0 x5_1).f0.f2.f2) ((rd_T140 l0 x5_1).f0.f2.f3) true _ A9.out).mono ?_); rintro e w15 ⟨rfl, hb⟩; have n0_ := Aside0.mk (Kd.R_below (kr HO_4.out) hb); have n1_ := an0 HB hb; clear HO_4; clear HB; have HO_4 := n0_; have HB := n1_; clear n0_ n1_; (try clear hb); (try clear hb2); (try clear hk); (try clear hi); have p222 : 0 ≤ (x5_1 : Int) := of_decide_eq_true (by first | (with_reducible assumption) | assumption); have q222 : x5_1 < (l0.length : Int) := of_decide_eq_true (by first | (with_reducible assumption) | assumption); obtain ⟨ad222, e222, hx222_0, hx222_1, hx222_2, hx222_3, hx222_4, hx222_5, hx222_6⟩ := at_T140 HR0.out x5_1 p222 q222; obtain rfl : ad220 = ad222 := (by injection e222); replace hx222_0 := hcx HB hx222_0; replace hx222_1 := hcx HB hx222_1; replace hx222_2 := hcx HB hx222_2; replace hx222_3 := hcx HB hx222_3; replace hx222_4 := hcx HB hx222_4; replace hx222_5 := hcx HB hx222_5; replace hx222_6 := hcx HB hx222_6; replace p222 := eq_true p222; replace q222 := eq_true q222))
                go_roundg k1
                case measure => have := HK1.out; omega
                case rel => exact ⟨(wrap64 (x5_1 + 1)), (by first | rfl | (simp; done) | (simp [*]; done) | (simp [bne_nil_, beq_nil_]; done)), H', ⟨by have := HK1.out; omega⟩, ⟨by (with_reducible repeat (first | apply Kd.R_alloc | apply Kd.R_drewN | apply Kd.R_drew)); exact HO_4.out⟩, ⟨bp HB.out⟩⟩
            · replace c10 := Bool.eq_false_iff.mpr c10
              subst c10
              have H1 : (some ((([] : List (S29))), false)) = some (r1, r2) := by rw [if_neg (show ¬ (false = true) by decide)] at H; exact H
              clear H
              have H := H1
              clear H1
              obtain ⟨y226, hy226⟩ : ∃ y_ : List (S29), y_ = (([] : List (S29))) := ⟨_, rfl⟩
              replace H : (some (y226, false)) = some (r1, r2) := by first | (rw [hy226]; with_reducible exact H) | (have H2_ := (Option.bind_some _ _).symm.trans H; rw [hy226]; with_reducible exact H2_) | (have H2_ := (Option.bind_some _ _).symm.trans H; with_reducible exact H2_) | with_reducible exact H | (rw [hy226]; exact H) | exact H
              have Ny226 := Aside0.mk hy226
              clear hy226
              simp only [Option.some.injEq, Prod.mk.injEq] at H
              obtain ⟨rfl, rfl⟩ := H
              have p220 : 0 ≤ (x5_1 : Int) := of_decide_eq_true (by first | (with_reducible assumption) | assumption)
              have q220 : x5_1 < (l0.length : Int) := of_decide_eq_true (by first | (with_reducible assumption) | assumption)
              obtain ⟨ad220, e220, hx220_0, hx220_1, hx220_2, hx220_3, hx220_4, hx220_5, hx220_6⟩ := at_T140 HR0.out x5_1 p220 q220
              cases e220
              replace hx220_0 := hcx HB hx220_0
              replace hx220_1 := hcx HB hx220_1
              replace hx220_2 := hcx HB hx220_2
              replace hx220_3 := hcx HB hx220_3
              replace hx220_4 := hcx HB hx220_4
              replace hx220_5 := hcx HB hx220_5
              replace hx220_6 := hcx HB hx220_6
              replace p220 := eq_true p220
              replace q220 := eq_true q220
              go_wp2_with (first | (go_at_call 152; (with_reducible refine (spec_EntryValid.calls k1 ((rd_T140 l0 x5_1).f0.f0) ((rd_T140 l0 x5_1).f0.f1) ((rd_T140 l0 x5_1).f0.f2.f0) ((rd_T140 l0 x5_1).f0.f2.f1) ((rd_T140 l0 x5_1).f0.f2.f2) ((rd_T140 l0 x5_1).f0.f2.f3) false _ A9.out).mono ?_); rintro e w16 ⟨rfl, hb⟩; have n0_ := Aside0.mk (Kd.R_below (kr HO_4.out) hb); have n1_ := an0 HB hb; clear HO_4; clear HB; have HO_4 := n0_; have HB := n1_; clear n0_ n1_; (try clear hb); (try clear hb2); (try clear hk); (try clear hi)) | ((with_reducible refine gate_dst (N := 37) rfl ?_); refine Kd.R_lit k29 _ 29 ?hg (N := 37) ?hd (xs := ([] : List (S29))) (inner := []) (ok := fun _ => True) (okp := fun _ => True) ?hr ?hp (fun _ hk => hk) trivial (Below.refl _ _) (Nat.le_refl _) (by simp) ?_; (case hd => rfl); (case hg => rfl); (case hr => first | (go_simp; done) | (go_simp; rfl)); (case hp => exact (Reps.none _ _)); intro v227 w17 ho18 hb hg_ hnew_; clear hg_ hnew_; (first | rw [← Ny226.out] at ho18 | (simp only [Int.reduceToNat] at ho18; rw [← Ny226.out] at ho18)); have n0_ := Aside0.mk (Kd.R_elder' (kr HO_4.out) (Kd.R_base ho18) hb); have n1_ := Aside0.mk (Kd.R_lower (Kd.R_new' ho18 (Kd.R_lt (kr HO_4.out))) (below_size (bp HB.out))); have n2_ := an0 HB hb; clear HO_4; clear HB; have HO_4 := n0_; have HO228 := n1_; have HB := n2_; clear n0_ n1_ n2_; clear hb ho18))
              go_ret2
              exact ⟨_, fe, by (with_reducible repeat (first | apply Kd.R_alloc | apply Kd.R_drewN | apply Kd.R_drew)); exact Kd.R_mono HO228.out (fun _ hk => trivial), bp HB.out⟩
          · rw [if_neg c8] at H
            exact absurd H (by simp)
      · rw [if_neg c4] at H
        have c4b0 : decide (x5_1 < (l0.length : Int)) = false := decide_eq_false c4
        clear c4
        have H' := Aside0.mk H
        clear H
        go_wp2
        go_loopg [4, 6] k1 (fun kq v4 v6 w' => ∃ (x4_2 : List (S29)) (x6_2 : Int), v6 = .int .i64 x6_2 ∧ Aside0 (spec_RunHistory.l1 kq l0 x4_2 x6_2 = some (r1, r2)) ∧ Aside0 (kq ≤ k1) ∧ Aside0 (Kd.R k29 29 w' w.heap.size (fun _ => True) v4 x4_2) ∧ Aside0 (Below w.heap.size w w'))
        case atStart => exact ⟨(y214), (0), (by first | rfl | (simp; done) | (simp [*]; done) | (simp [bne_nil_, beq_nil_]; done)), H', ⟨Nat.le_refl _⟩, ⟨by (with_reducible repeat (first | apply Kd.R_alloc | apply Kd.R_drewN | apply Kd.R_drew)); exact HO_4.out⟩, ⟨bp HB.out⟩⟩
        case round =>
          clear H'
          try clear c1
          try clear p2
          try clear q2
          try clear hx2
          try clear c4
          try clear c4b0
          try clear c5
          try clear c5b0
          try clear p6
          try clear c8
          try clear c8b0
          try clear c10
          try clear c11
          try clear c11b0
          try clear c11b1
          try clear hx220_0
          try clear hx220_1
          try clear hx220_2
          try clear hx220_3
          try clear hx220_4
          try clear hx220_5
          try clear hx220_6
          try clear hx222_0
          try clear hx222_1
          try clear hx222_2
          try clear hx222_3
          try clear hx222_4
          try clear hx222_5
          try clear hx222_6
          try clear p2
          try clear p220
          try clear p222
          try clear q220
          try clear q222
          obtain ⟨x4_2, x6_2, rfl, HA, HK2, HO_4, HB⟩ := hrel
          cases gk with
          | zero => exact absurd HA.out (by simp [spec_RunHistory.l1])
          | succ k2 =>
            have H := HA.out
            clear HA
            simp only [spec_RunHistory.l1] at H
            by_cases c19 : x6_2 < (l0.length : Int)
            · rw [if_pos c19] at H
              have c19b0 : decide (x6_2 < (l0.length : Int)) = true := decide_eq_true c19
              clear c19
              by_cases c20 : 0 ≤ x6_2
              · rw [if_pos c20] at H
                have c20b0 : decide (0 ≤ x6_2) = true := decide_eq_true c20
                clear c20
                replace H := Option.bind_eq_some_iff.mp H
                obtain ⟨⟨t230, t233⟩, A210, H⟩ := H
                replace H : (if t233 = true then (spec_RunHistory.l1 k2 l0 t230 (wrap64 (x6_2 + 1))) else (some ((([] : List (S29))), false))) = some (r1, r2) := H
                have A21 := Aside0.mk A210
                clear A210
                by_cases c22 : t233 = true
                · subst c22
                  have H1 : (spec_RunHistory.l1 k2 l0 t230 (wrap64 (x6_2 + 1))) = some (r1, r2) := by rw [if_pos rfl] at H; exact H
                  clear H
                  have H := H1
                  clear H1
                  have H' := Aside0.mk H
                  clear H
                  have p229 : 0 ≤ (x6_2 : Int) := of_decide_eq_true (by first | (with_reducible assumption) | assumption)
                  have q229 : x6_2 < (l0.length : Int) := of_decide_eq_true (by first | (with_reducible assumption) | assumption)
                  obtain ⟨ad229, e229, hx229_0, hx229_1, hx229_2, hx229_3, hx229_4, hx229_5, hx229_6⟩ := at_T140 HR0.out x6_2 p229 q229
                  cases e229
                  replace hx229_0 := hcx HB hx229_0
                  replace hx229_1 := hcx HB hx229_1
                  replace hx229_2 := hcx HB hx229_2
                  replace hx229_3 := hcx HB hx229_3
                  replace hx229_4 := hcx HB hx229_4
                  replace hx229_5 := hcx HB hx229_5
                  replace hx229_6 := hcx HB hx229_6
                  replace p229 := eq_true p229
                  replace q229 := eq_true q229
                  obtain ⟨Ao23, co23, eo23⟩ := Kd.R_slice HO_4.out
                  subst eo23
                  go_wp2_with (first | ((with_reducible refine gate_callee (f := 153) rfl ?_); refine gsl (some 50) rfl Try.func153 #[.slice Ao23 x4_2.length co23, .agg #[.int .i64 ((rd_T140 l0 x6_2).f0.f0), .int .i64 ((rd_T140 l0 x6_2).f0.f1), .int .i64 ((rd_T140 l0 x6_2).f0.f2.f0), .string ((rd_T140 l0 x6_2).f0.f2.f1), .int .i64 ((rd_T140 l0 x6_2).f0.f2.f2), .int .i64 ((rd_T140 l0 x6_2).f0.f2.f3), .int .i64 ((rd_T140 l0 x6_2).f1)]] rfl ?_; (with_reducible refine (spec_l29one.calls k2 (fun k_ => some k_ = (.slice Ao23 x4_2.length co23 : Value).ownBlock) (.slice Ao23 x4_2.length co23) x4_2 ((rd_T140 l0 x6_2).f0.f0) ((rd_T140 l0 x6_2).f0.f1) ((rd_T140 l0 x6_2).f0.f2.f0) ((rd_T140 l0 x6_2).f0.f2.f1) ((rd_T140 l0 x6_2).f0.f2.f2) ((rd_T140 l0 x6_2).f0.f2.f3) ((rd_T140 l0 x6_2).f1) t230 true w _ ?side1 ?side2 A21.out).mono ?_); (case side1 => repeat (first | (with_reducible first | exact HB.out | apply below_alloc | apply pw_below_drewN | apply below_drew1) | exact HB.out)); (case side2 => exact Kd.R_tight rfl HO_4.out); rintro e w24 ⟨v231, rfl, ho0, hb, hkp⟩; refine ⟨_, rfl, ?_⟩; have n0_ := Aside0.mk (Kd.R_mono (ok' := fun k_ => True) ho0 (fun k_ hk_ => trivial)); have n1_ := Aside0.mk (hb); clear HB; clear HO_4; have HO232 := n0_; have HB := n1_; clear n0_ n1_; (try clear hb); (try clear hkp); (try clear ho0)))
                  go_roundg k2
                  case measure => have := HK1.out; have := HK2.out; omega
                  case rel => exact ⟨(t230), (wrap64 (x6_2 + 1)), (by first | rfl | (simp; done) | (simp [*]; done) | (simp [bne_nil_, beq_nil_]; done)), H', ⟨by have := HK1.out; have := HK2.out; omega⟩, ⟨by (with_reducible repeat (first | apply Kd.R_alloc | apply Kd.R_drewN | apply Kd.R_drew)); exact HO232.out⟩, ⟨bp HB.out⟩⟩
                · replace c22 := Bool.eq_false_iff.mpr c22
                  subst c22
                  have H1 : (some ((([] : List (S29))), false)) = some (r1, r2) := by rw [if_neg (show ¬ (false = true) by decide)] at H; exact H
                  clear H
                  have H := H1
                  clear H1
                  obtain ⟨y234, hy234⟩ : ∃ y_ : List (S29), y_ = (([] : List (S29))) := ⟨_, rfl⟩
                  replace H : (some (y234, false)) = some (r1, r2) := by first | (rw [hy234]; with_reducible exact H) | (have H2_ := (Option.bind_some _ _).symm.trans H; rw [hy234]; with_reducible exact H2_) | (have H2_ := (Option.bind_some _ _).symm.trans H; with_reducible exact H2_) | with_reducible exact H | (rw [hy234]; exact H) | exact H
                  have Ny234 := Aside0.mk hy234
                  clear hy234
                  simp only [Option.some.injEq, Prod.mk.injEq] at H
                  obtain ⟨rfl, rfl⟩ := H
                  have p229 : 0 ≤ (x6_2 : Int) := of_decide_eq_true (by first | (with_reducible assumption) | assumption)
                  have q229 : x6_2 < (l0.length : Int) := of_decide_eq_true (by first | (with_reducible assumption) | assumption)
                  obtain ⟨ad229, e229, hx229_0, hx229_1, hx229_2, hx229_3, hx229_4, hx229_5, hx229_6⟩ := at_T140 HR0.out x6_2 p229 q229
                  cases e229
                  replace hx229_0 := hcx HB hx229_0
                  replace hx229_1 := hcx HB hx229_1
                  replace hx229_2 := hcx HB hx229_2
                  replace hx229_3 := hcx HB hx229_3
                  replace hx229_4 := hcx HB hx229_4
                  replace hx229_5 := hcx HB hx229_5
                  replace hx229_6 := hcx HB hx229_6
                  replace p229 := eq_true p229
                  replace q229 := eq_true q229
                  obtain ⟨Ao25, co25, eo25⟩ := Kd.R_slice HO_4.out
                  subst eo25
                  go_wp2_with (first | ((with_reducible refine gate_callee (f := 153) rfl ?_); refine gsl (some 50) rfl Try.func153 #[.slice Ao25 x4_2.length co25, .agg #[.int .i64 ((rd_T140 l0 x6_2).f0.f0), .int .i64 ((rd_T140 l0 x6_2).f0.f1), .int .i64 ((rd_T140 l0 x6_2).f0.f2.f0), .string ((rd_T140 l0 x6_2).f0.f2.f1), .int .i64 ((rd_T140 l0 x6_2).f0.f2.f2), .int .i64 ((rd_T140 l0 x6_2).f0.f2.f3), .int .i64 ((rd_T140 l0 x6_2).f1)]] rfl ?_; (with_reducible refine (spec_l29one.calls k2 (fun k_ => some k_ = (.slice Ao25 x4_2.length co25 : Value).ownBlock) (.slice Ao25 x4_2.length co25) x4_2 ((rd_T140 l0 x6_2).f0.f0) ((rd_T140 l0 x6_2).f0.f1) ((rd_T140 l0 x6_2).f0.f2.f0) ((rd_T140 l0 x6_2).f0.f2.f1) ((rd_T140 l0 x6_2).f0.f2.f2) ((rd_T140 l0 x6_2).f0.f2.f3) ((rd_T140 l0 x6_2).f1) t230 false w _ ?side1 ?side2 A21.out).mono ?_); (case side1 => repeat (first | (with_reducible first | exact HB.out | apply below_alloc | apply pw_below_drewN | apply below_drew1) | exact HB.out)); (case side2 => exact Kd.R_tight rfl HO_4.out); rintro e w26 ⟨v231, rfl, ho0, hb, hkp⟩; refine ⟨_, rfl, ?_⟩; have n0_ := Aside0.mk (Kd.R_mono (ok' := fun k_ => True) ho0 (fun k_ hk_ => trivial)); have n1_ := Aside0.mk (hb); clear HB; clear HO_4; have HO232 := n0_; have HB := n1_; clear n0_ n1_; (try clear hb); (try clear hkp); (try clear ho0)) | ((with_reducible refine gate_dst (N := 55) rfl ?_); refine Kd.R_lit k29 _ 29 ?hg (N := 55) ?hd (xs := ([] : List (S29))) (inner := []) (ok := fun _ => True) (okp := fun _ => True) ?hr ?hp (fun _ hk => hk) trivial (Below.refl _ _) (Nat.le_refl _) (by simp) ?_; (case hd => rfl); (case hg => rfl); (case hr => first | (go_simp; done) | (go_simp; rfl)); (case hp => exact (Reps.none _ _)); intro v235 w27 ho28 hb hg_ hnew_; clear hg_ hnew_; (first | rw [← Ny234.out] at ho28 | (simp only [Int.reduceToNat] at ho28; rw [← Ny234.out] at ho28)); have n0_ := Aside0.mk (Kd.R_elder' (kr HO232.out) (Kd.R_base ho28) hb); have n1_ := Aside0.mk (Kd.R_lower (Kd.R_new' ho28 (Kd.R_lt (kr HO232.out))) (below_size (bp HB.out))); have n2_ := an0 HB hb; clear HO232; clear HB; have HO232 := n0_; have HO236 := n1_; have HB := n2_; clear n0_ n1_ n2_; clear hb ho28))
                  go_ret2
                  exact ⟨_, fe, by (with_reducible repeat (first | apply Kd.R_alloc | apply Kd.R_drewN | apply Kd.R_drew)); exact Kd.R_mono HO236.out (fun _ hk => trivial), bp HB.out⟩
              · rw [if_neg c20] at H
                exact absurd H (by simp)
            · rw [if_neg c19] at H
              have c19b0 : decide (x6_2 < (l0.length : Int)) = false := decide_eq_false c19
              clear c19
              simp only [Option.some.injEq, Prod.mk.injEq] at H
              obtain ⟨rfl, rfl⟩ := H
              go_wp2
              go_ret2
              exact ⟨_, fe, by (with_reducible repeat (first | apply Kd.R_alloc | apply Kd.R_drewN | apply Kd.R_drew)); exact HO_4.out, bp HB.out⟩

/-! ### spec_RepliesRight: function 65 -/
def spec_RepliesRight.l0 : Nat → List (S42) → List Int → List (S140) → Int → Option (Bool)
  | 0, _, _, _, _ => none
  | k + 1, x0, x1, x5, x6 => if x6 < (x1.length : Int) then (if 0 ≤ x6 then (if 0 ≤ (rd x1 x6) then (if (rd x1 x6) < (x0.length : Int) then ((spec_ResultValid.f k ((rd_T42 x0 (rd x1 x6)).f0) ((rd_T42 x0 (rd x1 x6)).f1) ((rd_T42 x0 (rd x1 x6)).f2.f0) ((rd_T42 x0 (rd x1 x6)).f2.f1) ((rd_T42 x0 (rd x1 x6)).f2.f2) ((rd_T42 x0 (rd x1 x6)).f2.f3) ((rd_T42 x0 (rd x1 x6)).f3) ((rd_T42 x0 (rd x1 x6)).f4) ((rd_T42 x0 (rd x1 x6)).f5)).bind fun t244 => (if t244 = true then (if x5.length < 2199023255552 then (spec_RepliesRight.l0 k x0 x1 (x5 ++ [(⟨(⟨(rd_T42 x0 (rd x1 x6)).f0, (rd_T42 x0 (rd x1 x6)).f1, (⟨(rd_T42 x0 (rd x1 x6)).f2.f0, (rd_T42 x0 (rd x1 x6)).f2.f1, (rd_T42 x0 (rd x1 x6)).f2.f2, (rd_T42 x0 (rd x1 x6)).f2.f3⟩ : S40)⟩ : S138), (rd_T42 x0 (rd x1 x6)).f3⟩ : S140)]) (wrap64 (x6 + 1))) else (none)) else (some false))) else (none)) else (none)) else (none)) else ((spec_RunHistory.f k x5).bind fun bt248 => (some bt248.2))
def spec_RepliesRight.f (k : Nat) (l0 : List (S42)) (l1 : List Int) : Option (Bool) := (spec_OrderValid.f k (l0.length : Int) l1).bind fun t237 => (if t237 = true then (spec_RepliesRight.l0 k l0 l1 (([] : List (S140))) 0) else (some false))
theorem spec_RepliesRight.mono_l : ∀ k, (∀ y0 y1 y2 y3, LeO (spec_RepliesRight.l0 k y0 y1 y2 y3) (spec_RepliesRight.l0 (k + 1) y0 y1 y2 y3))
  | 0 => fun _ _ _ _ r h => by simp [spec_RepliesRight.l0] at h
  | k + 1 => by
    have ih0 := spec_RepliesRight.mono_l k
    · intro y0 y1 y2 y3
      unfold spec_RepliesRight.l0
      repeat' first
      | (with_reducible exact ih0 _ _ _ _)
      | (with_reducible exact spec_OrderValid.mono _ _ _)
      | (with_reducible exact spec_ResultValid.mono _ _ _ _ _ _ _ _ _ _)
      | (with_reducible exact spec_RunHistory.mono _ _)
      | (with_reducible exact LeO.refl _)
      | (with_reducible exact LeO.none _)
      | (with_reducible refine LeO.ite ?_ ?_)
      | (with_reducible refine LeO.bind ?_ (fun _ => ?_))
      | exact ih0 _ _ _ _
      | exact spec_OrderValid.mono _ _ _
      | exact spec_ResultValid.mono _ _ _ _ _ _ _ _ _ _
      | exact spec_RunHistory.mono _ _
      | exact LeO.none _
      | refine LeO.ite ?_ ?_
      | refine LeO.bind ?_ (fun _ => ?_)
theorem spec_RepliesRight.mono : ∀ a0 a1 k, LeO (spec_RepliesRight.f k a0 a1) (spec_RepliesRight.f (k + 1) a0 a1) := by
  intro a0 a1 k
  have ih0 := spec_RepliesRight.mono_l k
  unfold spec_RepliesRight.f
  repeat' first
      | (with_reducible exact ih0 _ _ _ _)
      | (with_reducible exact spec_OrderValid.mono _ _ _)
      | (with_reducible exact spec_ResultValid.mono _ _ _ _ _ _ _ _ _ _)
      | (with_reducible exact spec_RunHistory.mono _ _)
      | (with_reducible exact LeO.refl _)
      | (with_reducible exact LeO.none _)
      | (with_reducible refine LeO.ite ?_ ?_)
      | (with_reducible refine LeO.bind ?_ (fun _ => ?_))
      | exact ih0 _ _ _ _
      | exact spec_OrderValid.mono _ _ _
      | exact spec_ResultValid.mono _ _ _ _ _ _ _ _ _ _
      | exact spec_RunHistory.mono _ _
      | exact LeO.none _
      | refine LeO.ite ?_ ?_
      | refine LeO.bind ?_ (fun _ => ?_)
set_option maxHeartbeats 8000000 in
set_option maxRecDepth 100000 in
theorem spec_RepliesRight.calls (k : Nat) (A0 : Option Addr) (c0 : Nat) (l0 : List (S42)) (A1 : Option Addr) (c1 : Nat) (l1 : List Int) (r : Bool) (w : World) (hr0 : Kd.C k42 w A0 l0.length l0) (hc0 : l0.length ≤ c0) (hr1 : Kd.C (Kd.int .i64) w A1 l1.length l1) (hc1 : l1.length ≤ c1) (h : spec_RepliesRight.f k l0 l1 = some r) :
    Calls Try.prog 65 #[.slice A0 l0.length c0, .slice A1 l1.length c1] w fun e w' => e = .returned (.bool r) ∧ Below w.heap.size w w' := by
  have hu42 := Try.underlying42
  have hu40 := Try.underlying40
  have hu138 := Try.underlying138
  have hu140 := Try.underlying140
  have HR0 := Aside0.mk hr0
  have HC0 := Aside0.mk hc0
  clear hr0 hc0
  have HR1 := Aside0.mk hr1
  have HC1 := Aside0.mk hc1
  clear hr1 hc1
  have HB := Aside0.mk (Below.refl w.heap.size w)
  have H : ((spec_OrderValid.f k (l0.length : Int) l1).bind fun t237 => (if t237 = true then (spec_RepliesRight.l0 k l0 l1 (([] : List (S140))) 0) else (some false))) = some r := h
  clear h
  replace H := Option.bind_eq_some_iff.mp H
  obtain ⟨t237, A30, H⟩ := H
  replace H : (if t237 = true then (spec_RepliesRight.l0 k l0 l1 (([] : List (S140))) 0) else (some false)) = some r := H
  have A3 := Aside0.mk A30
  clear A30
  by_cases c4 : t237 = true
  · subst c4
    have H1 : (spec_RepliesRight.l0 k l0 l1 (([] : List (S140))) 0) = some r := by rw [if_pos rfl] at H; exact H
    clear H
    have H := H1
    clear H1
    obtain ⟨y238, hy238⟩ : ∃ y_ : List (S140), y_ = (([] : List (S140))) := ⟨_, rfl⟩
    replace H : (spec_RepliesRight.l0 k l0 l1 y238 0) = some r := by first | (rw [hy238]; with_reducible exact H) | (have H2_ := (Option.bind_some _ _).symm.trans H; rw [hy238]; with_reducible exact H2_) | (have H2_ := (Option.bind_some _ _).symm.trans H; with_reducible exact H2_) | with_reducible exact H | (rw [hy238]; exact H) | exact H
    have Ny238 := Aside0.mk hy238
    clear hy238
    have H' := Aside0.mk H
    clear H
    go_enter Try.func65, Try.ntmps65
    go_wp2_with (first | ((with_reducible refine gate_callee (f := 81) rfl ?_); refine gsl (some 13) rfl Try.func81 #[.int .i64 (l0.length : Int), .slice A1 l1.length c1] rfl ?_; (with_reducible refine (spec_OrderValid.calls k (l0.length : Int) _ _ l1 true _ ?side1 ?side2 A3.out).mono ?_); (case side1 => exact cc HR1.out); (case side2 => exact HC1.out); rintro e w' ⟨rfl, ⟨nd, rfl⟩⟩; refine ⟨_, rfl, ?_⟩) | ((with_reducible refine gate_dst (N := 15) rfl ?_); refine Kd.R_lit k140 _ 140 ?hg (N := 15) ?hd (xs := ([] : List (S140))) (inner := []) (ok := fun _ => True) (okp := fun _ => True) ?hr ?hp (fun _ hk => hk) trivial (Below.refl _ _) (Nat.le_refl _) (by simp) ?_; (case hd => rfl); (case hg => rfl); (case hr => first | (go_simp; done) | (go_simp; rfl)); (case hp => exact (Reps.none _ _)); intro v239 w5 ho6 hb hg_ hnew_; clear hg_ hnew_; (first | rw [← Ny238.out] at ho6 | (simp only [Int.reduceToNat] at ho6; rw [← Ny238.out] at ho6)); have n0_ := Aside0.mk (Kd.R_lower ho6 (below_size (bp HB.out))); have n1_ := an0 HB hb; clear HB; have HO240 := n0_; have HB := n1_; clear n0_ n1_; clear hb ho6))
    go_loopg [5, 6] k (fun kq v5 v6 w' => ∃ (x5_1 : List (S140)) (x6_1 : Int), v6 = .int .i64 x6_1 ∧ Aside0 (spec_RepliesRight.l0 kq l0 l1 x5_1 x6_1 = some r) ∧ Aside0 (kq ≤ k) ∧ Aside0 (Kd.R k140 140 w' w.heap.size (fun _ => True) v5 x5_1) ∧ Aside0 (Below w.heap.size w w'))
    case atStart => exact ⟨(y238), (0), (by first | rfl | (simp; done) | (simp [*]; done) | (simp [bne_nil_, beq_nil_]; done)), H', ⟨Nat.le_refl _⟩, ⟨by (with_reducible repeat (first | apply Kd.R_alloc | apply Kd.R_drewN | apply Kd.R_drew)); exact HO240.out⟩, ⟨bp HB.out⟩⟩
    case round =>
      clear H'
      try clear c1
      try clear p2
      try clear c4
      try clear c6
      obtain ⟨x5_1, x6_1, rfl, HA, HK1, HO_5, HB⟩ := hrel
      cases gk with
      | zero => exact absurd HA.out (by simp [spec_RepliesRight.l0])
      | succ k1 =>
        have H := HA.out
        clear HA
        simp only [spec_RepliesRight.l0] at H
        by_cases c7 : x6_1 < (l1.length : Int)
        · rw [if_pos c7] at H
          have c7b0 : decide (x6_1 < (l1.length : Int)) = true := decide_eq_true c7
          clear c7
          by_cases c8 : 0 ≤ x6_1
          · rw [if_pos c8] at H
            have c8b0 : decide (0 ≤ x6_1) = true := decide_eq_true c8
            clear c8
            by_cases c9 : 0 ≤ (rd l1 x6_1)
            · rw [if_pos c9] at H
              have c9b0 : decide (0 ≤ (rd l1 x6_1)) = true := decide_eq_true c9
              clear c9
              by_cases c10 : (rd l1 x6_1) < (l0.length : Int)
              · rw [if_pos c10] at H
                have c10b0 : decide ((rd l1 x6_1) < (l0.length : Int)) = true := decide_eq_true c10
                clear c10
                replace H := Option.bind_eq_some_iff.mp H
                obtain ⟨t244, A110, H⟩ := H
                replace H : (if t244 = true then (if x5_1.length < 2199023255552 then (spec_RepliesRight.l0 k1 l0 l1 (x5_1 ++ [(⟨(⟨(rd_T42 l0 (rd l1 x6_1)).f0, (rd_T42 l0 (rd l1 x6_1)).f1, (⟨(rd_T42 l0 (rd l1 x6_1)).f2.f0, (rd_T42 l0 (rd l1 x6_1)).f2.f1, (rd_T42 l0 (rd l1 x6_1)).f2.f2, (rd_T42 l0 (rd l1 x6_1)).f2.f3⟩ : S40)⟩ : S138), (rd_T42 l0 (rd l1 x6_1)).f3⟩ : S140)]) (wrap64 (x6_1 + 1))) else (none)) else (some false)) = some r := H
                have A11 := Aside0.mk A110
                clear A110
                by_cases c12 : t244 = true
                · subst c12
                  have H1 : (if x5_1.length < 2199023255552 then (spec_RepliesRight.l0 k1 l0 l1 (x5_1 ++ [(⟨(⟨(rd_T42 l0 (rd l1 x6_1)).f0, (rd_T42 l0 (rd l1 x6_1)).f1, (⟨(rd_T42 l0 (rd l1 x6_1)).f2.f0, (rd_T42 l0 (rd l1 x6_1)).f2.f1, (rd_T42 l0 (rd l1 x6_1)).f2.f2, (rd_T42 l0 (rd l1 x6_1)).f2.f3⟩ : S40)⟩ : S138), (rd_T42 l0 (rd l1 x6_1)).f3⟩ : S140)]) (wrap64 (x6_1 + 1))) else (none)) = some r := by rw [if_pos rfl] at H; exact H
                  clear H
                  have H := H1
                  clear H1
                  by_cases c13 : x5_1.length < 2199023255552
                  · rw [if_pos c13] at H
                    have LMc13 := Aside0.mk c13
                    clear c13
                    obtain ⟨y245, hy245⟩ : ∃ y_ : List (S140), y_ = (x5_1 ++ [(⟨(⟨(rd_T42 l0 (rd l1 x6_1)).f0, (rd_T42 l0 (rd l1 x6_1)).f1, (⟨(rd_T42 l0 (rd l1 x6_1)).f2.f0, (rd_T42 l0 (rd l1 x6_1)).f2.f1, (rd_T42 l0 (rd l1 x6_1)).f2.f2, (rd_T42 l0 (rd l1 x6_1)).f2.f3⟩ : S40)⟩ : S138), (rd_T42 l0 (rd l1 x6_1)).f3⟩ : S140)]) := ⟨_, rfl⟩
                    replace H : (spec_RepliesRight.l0 k1 l0 l1 y245 (wrap64 (x6_1 + 1))) = some r := by first | (rw [hy245]; with_reducible exact H) | (have H2_ := (Option.bind_some _ _).symm.trans H; rw [hy245]; with_reducible exact H2_) | (have H2_ := (Option.bind_some _ _).symm.trans H; with_reducible exact H2_) | with_reducible exact H | (rw [hy245]; exact H) | exact H
                    have Ny245 := Aside0.mk hy245
                    clear hy245
                    have H' := Aside0.mk H
                    clear H
                    have p241 : 0 ≤ (x6_1 : Int) := of_decide_eq_true (by first | (with_reducible assumption) | assumption)
                    have q241 : x6_1 < (l1.length : Int) := of_decide_eq_true (by first | (with_reducible assumption) | assumption)
                    obtain ⟨ad241, e241, hx241_0⟩ := Kd.at_int HR1.out x6_1 p241 q241
                    cases e241
                    replace hx241_0 := hcx HB hx241_0
                    replace p241 := eq_true p241
                    replace q241 := eq_true q241
                    have p242 : 0 ≤ ((rd l1 x6_1) : Int) := of_decide_eq_true (by first | (with_reducible assumption) | assumption)
                    have q242 : (rd l1 x6_1) < (l0.length : Int) := of_decide_eq_true (by first | (with_reducible assumption) | assumption)
                    obtain ⟨ad242, e242, hx242_0, hx242_1, hx242_2, hx242_3, hx242_4, hx242_5, hx242_6, hx242_7, hx242_8⟩ := at_T42 HR0.out (rd l1 x6_1) p242 q242
                    cases e242
                    replace hx242_0 := hcx HB hx242_0
                    replace hx242_1 := hcx HB hx242_1
                    replace hx242_2 := hcx HB hx242_2
                    replace hx242_3 := hcx HB hx242_3
                    replace hx242_4 := hcx HB hx242_4
                    replace hx242_5 := hcx HB hx242_5
                    replace hx242_6 := hcx HB hx242_6
                    replace hx242_7 := hcx HB hx242_7
                    replace hx242_8 := hcx HB hx242_8
                    replace p242 := eq_true p242
                    replace q242 := eq_true q242
                    go_wp2_with (first | ((with_reducible refine gate_dst (N := 7) rfl ?_); refine bxe (N := 7) (cs := #[.int .i64 0, .int .i64 0, .int .i64 0, .string (⟨#[]⟩ : ByteArray), .int .i64 0, .int .i64 0, .int .i64 0, .int .i64 0, .int .i64 0]) (t := 42) ?_; intro gb243 hg w14 hbox hb; have n0_ := Aside0.mk (Kd.R_below (kr HO_5.out) hb); have n1_ := an0 HB hb; have n2_ := Aside0.mk (hbox); have n3_ := an2 HB hg; have n4_ := an2 HB hg; clear HO_5; clear HB; have HO_5 := n0_; have HB := n1_; have BK243 := n2_; have GW243 := n3_; have GE243 := n4_; clear n0_ n1_ n2_ n3_ n4_; clear hb hbox hg; obtain ⟨hcz15_0, hcz15_1, hcz15_2, hcz15_3, hcz15_4, hcz15_5, hcz15_6, hcz15_7, hcz15_8, hfz15_0, hfz15_1, hfz15_2, hfz15_3, hfz15_4, hfz15_5, hfz15_6, hfz15_7, hfz15_8⟩ := cl9 BK243) | ((with_reducible refine gate_callee (f := 82) rfl ?_); refine gsl (some 30) rfl Try.func82 #[.agg #[.int .i64 ((rd_T42 l0 (rd l1 x6_1)).f0), .int .i64 ((rd_T42 l0 (rd l1 x6_1)).f1), .int .i64 ((rd_T42 l0 (rd l1 x6_1)).f2.f0), .string ((rd_T42 l0 (rd l1 x6_1)).f2.f1), .int .i64 ((rd_T42 l0 (rd l1 x6_1)).f2.f2), .int .i64 ((rd_T42 l0 (rd l1 x6_1)).f2.f3), .int .i64 ((rd_T42 l0 (rd l1 x6_1)).f3), .int .i64 ((rd_T42 l0 (rd l1 x6_1)).f4), .int .i64 ((rd_T42 l0 (rd l1 x6_1)).f5)]] rfl ?_; (with_reducible refine (spec_ResultValid.calls k1 ((rd_T42 l0 (rd l1 x6_1)).f0) ((rd_T42 l0 (rd l1 x6_1)).f1) ((rd_T42 l0 (rd l1 x6_1)).f2.f0) ((rd_T42 l0 (rd l1 x6_1)).f2.f1) ((rd_T42 l0 (rd l1 x6_1)).f2.f2) ((rd_T42 l0 (rd l1 x6_1)).f2.f3) ((rd_T42 l0 (rd l1 x6_1)).f3) ((rd_T42 l0 (rd l1 x6_1)).f4) ((rd_T42 l0 (rd l1 x6_1)).f5) true _ A11.out).mono ?_); rintro e w16 ⟨rfl, hb⟩; refine ⟨_, rfl, ?_⟩; have n0_ := Aside0.mk (Kd.R_below (by (with_reducible repeat (first | apply Kd.R_alloc | apply Kd.R_drewN | apply Kd.R_drew)); exact (Kd.R_mono (Kd.R_far (p := ⟨gb243, 8, none⟩) (Kd.R_far (p := ⟨gb243, 7, none⟩) (Kd.R_far (p := ⟨gb243, 6, none⟩) (Kd.R_far (p := ⟨gb243, 5, none⟩) (Kd.R_far (p := ⟨gb243, 4, none⟩) (Kd.R_far (p := ⟨gb243, 3, none⟩) (Kd.R_far (p := ⟨gb243, 2, none⟩) (Kd.R_far (p := ⟨gb243, 1, none⟩) (Kd.R_far (p := ⟨gb243, 0, none⟩) (Kd.R_types HO_5.out BK243.out (by decide)) (fun _ hk => hk.2) (.int .i64 ((rd_T42 l0 (rd l1 x6_1)).f0))) (fun _ hk => hk.2) (.int .i64 ((rd_T42 l0 (rd l1 x6_1)).f1))) (fun _ hk => hk.2) (.int .i64 ((rd_T42 l0 (rd l1 x6_1)).f2.f0))) (fun _ hk => hk.2) (.string ((rd_T42 l0 (rd l1 x6_1)).f2.f1))) (fun _ hk => hk.2) (.int .i64 ((rd_T42 l0 (rd l1 x6_1)).f2.f2))) (fun _ hk => hk.2) (.int .i64 ((rd_T42 l0 (rd l1 x6_1)).f2.f3))) (fun _ hk => hk.2) (.int .i64 ((rd_T42 l0 (rd l1 x6_1)).f3))) (fun _ hk => hk.2) (.int .i64 ((rd_T42 l0 (rd l1 x6_1)).f4))) (fun _ hk => hk.2) (.int .i64 ((rd_T42 l0 (rd l1 x6_1)).f5))) (fun _ h_ => h_.1))) hb); have n1_ := Aside0.mk (blk_below (g := gb243) (o := .cells #[.int .i64 ((rd_T42 l0 (rd l1 x6_1)).f0), .int .i64 ((rd_T42 l0 (rd l1 x6_1)).f1), .int .i64 ((rd_T42 l0 (rd l1 x6_1)).f2.f0), .string ((rd_T42 l0 (rd l1 x6_1)).f2.f1), .int .i64 ((rd_T42 l0 (rd l1 x6_1)).f2.f2), .int .i64 ((rd_T42 l0 (rd l1 x6_1)).f2.f3), .int .i64 ((rd_T42 l0 (rd l1 x6_1)).f3), .int .i64 ((rd_T42 l0 (rd l1 x6_1)).f4), .int .i64 ((rd_T42 l0 (rd l1 x6_1)).f5)] 42 (0, 0)) (by (with_reducible repeat (first | refine blk_drewN ?_ _ | refine blk_drew ?_ | refine blk_alloc ?_ _)); refine blk_put (cs := #[.int .i64 ((rd_T42 l0 (rd l1 x6_1)).f0), .int .i64 ((rd_T42 l0 (rd l1 x6_1)).f1), .int .i64 ((rd_T42 l0 (rd l1 x6_1)).f2.f0), .string ((rd_T42 l0 (rd l1 x6_1)).f2.f1), .int .i64 ((rd_T42 l0 (rd l1 x6_1)).f2.f2), .int .i64 ((rd_T42 l0 (rd l1 x6_1)).f2.f3), .int .i64 ((rd_T42 l0 (rd l1 x6_1)).f3), .int .i64 ((rd_T42 l0 (rd l1 x6_1)).f4), .int .i64 0]) ?_ 8 _ rfl; (with_reducible repeat (first | refine blk_drewN ?_ _ | refine blk_drew ?_ | refine blk_alloc ?_ _)); refine blk_put (cs := #[.int .i64 ((rd_T42 l0 (rd l1 x6_1)).f0), .int .i64 ((rd_T42 l0 (rd l1 x6_1)).f1), .int .i64 ((rd_T42 l0 (rd l1 x6_1)).f2.f0), .string ((rd_T42 l0 (rd l1 x6_1)).f2.f1), .int .i64 ((rd_T42 l0 (rd l1 x6_1)).f2.f2), .int .i64 ((rd_T42 l0 (rd l1 x6_1)).f2.f3), .int .i64 ((rd_T42 l0 (rd l1 x6_1)).f3), .int .i64 0, .int .i64 0]) ?_ 7 _ rfl; (with_reducible repeat (first | refine blk_drewN ?_ _ | refine blk_drew ?_ | refine blk_alloc ?_ _)); refine blk_put (cs := #[.int .i64 ((rd_T42 l0 (rd l1 x6_1)).f0), .int .i64 ((rd_T42 l0 (rd l1 x6_1)).f1), .int .i64 ((rd_T42 l0 (rd l1 x6_1)).f2.f0), .string ((rd_T42 l0 (rd l1 x6_1)).f2.f1), .int .i64 ((rd_T42 l0 (rd l1 x6_1)).f2.f2), .int .i64 ((rd_T42 l0 (rd l1 x6_1)).f2.f3), .int .i64 0, .int .i64 0, .int .i64 0]) ?_ 6 _ rfl; (with_reducible repeat (first | refine blk_drewN ?_ _ | refine blk_drew ?_ | refine blk_alloc ?_ _)); refine blk_put (cs := #[.int .i64 ((rd_T42 l0 (rd l1 x6_1)).f0), .int .i64 ((rd_T42 l0 (rd l1 x6_1)).f1), .int .i64 ((rd_T42 l0 (rd l1 x6_1)).f2.f0), .string ((rd_T42 l0 (rd l1 x6_1)).f2.f1), .int .i64 ((rd_T42 l0 (rd l1 x6_1)).f2.f2), .int .i64 0, .int .i64 0, .int .i64 0, .int .i64 0]) ?_ 5 _ rfl; (with_reducible repeat (first | refine blk_drewN ?_ _ | refine blk_drew ?_ | refine blk_alloc ?_ _)); refine blk_put (cs := #[.int .i64 ((rd_T42 l0 (rd l1 x6_1)).f0), .int .i64 ((rd_T42 l0 (rd l1 x6_1)).f1), .int .i64 ((rd_T42 l0 (rd l1 x6_1)).f2.f0), .string ((rd_T42 l0 (rd l1 x6_1)).f2.f1), .int .i64 0, .int .i64 0, .int .i64 0, .int .i64 0, .int .i64 0]) ?_ 4 _ rfl; (with_reducible repeat (first | refine blk_drewN ?_ _ | refine blk_drew ?_ | refine blk_alloc ?_ _)); refine blk_put (cs := #[.int .i64 ((rd_T42 l0 (rd l1 x6_1)).f0), .int .i64 ((rd_T42 l0 (rd l1 x6_1)).f1), .int .i64 ((rd_T42 l0 (rd l1 x6_1)).f2.f0), .string (⟨#[]⟩ : ByteArray), .int .i64 0, .int .i64 0, .int .i64 0, .int .i64 0, .int .i64 0]) ?_ 3 _ rfl; (with_reducible repeat (first | refine blk_drewN ?_ _ | refine blk_drew ?_ | refine blk_alloc ?_ _)); refine blk_put (cs := #[.int .i64 ((rd_T42 l0 (rd l1 x6_1)).f0), .int .i64 ((rd_T42 l0 (rd l1 x6_1)).f1), .int .i64 0, .string (⟨#[]⟩ : ByteArray), .int .i64 0, .int .i64 0, .int .i64 0, .int .i64 0, .int .i64 0]) ?_ 2 _ rfl; (with_reducible repeat (first | refine blk_drewN ?_ _ | refine blk_drew ?_ | refine blk_alloc ?_ _)); refine blk_put (cs := #[.int .i64 ((rd_T42 l0 (rd l1 x6_1)).f0), .int .i64 0, .int .i64 0, .string (⟨#[]⟩ : ByteArray), .int .i64 0, .int .i64 0, .int .i64 0, .int .i64 0, .int .i64 0]) ?_ 1 _ rfl; (with_reducible repeat (first | refine blk_drewN ?_ _ | refine blk_drew ?_ | refine blk_alloc ?_ _)); refine blk_put (cs := #[.int .i64 0, .int .i64 0, .int .i64 0, .string (⟨#[]⟩ : ByteArray), .int .i64 0, .int .i64 0, .int .i64 0, .int .i64 0, .int .i64 0]) ?_ 0 _ rfl; (with_reducible repeat (first | refine blk_drewN ?_ _ | refine blk_drew ?_ | refine blk_alloc ?_ _)); exact BK243.out) hb); have n2_ := an0 HB hb; clear HO_5; clear BK243; clear HB; have HO_5 := n0_; have BK243 := n1_; have HB := n2_; clear n0_ n1_ n2_; (try clear hb); (try clear hb2); (try clear hk); (try clear hi); obtain ⟨hcz17_0, hcz17_1, hcz17_2, hcz17_3, hcz17_4, hcz17_5, hcz17_6, hcz17_7, hcz17_8, hfz17_0, hfz17_1, hfz17_2, hfz17_3, hfz17_4, hfz17_5, hfz17_6, hfz17_7, hfz17_8⟩ := cl9 BK243) | ((with_reducible refine gate_builtin (b := .append) (xs := #[.tmp 32, .tmp 43]) rfl ?_); at_builtin; refine Kd.R_append k140 (w0 := w) w.heap.size rfl (.tmp 32) (.tmp 43) 136 140 (.agg #[(.int .i64 0), (.int .i64 0), (.int .i64 0), (.string ⟨#[]⟩), (.int .i64 0), (.int .i64 0), (.int .i64 0)]) 64 rfl Try.underlying136 info140 rfl (by decide) (by omega) u5 x5_1 (⟨(⟨(rd_T42 l0 (rd l1 x6_1)).f0, (rd_T42 l0 (rd l1 x6_1)).f1, (⟨(rd_T42 l0 (rd l1 x6_1)).f2.f0, (rd_T42 l0 (rd l1 x6_1)).f2.f1, (rd_T42 l0 (rd l1 x6_1)).f2.f2, (rd_T42 l0 (rd l1 x6_1)).f2.f3⟩ : S40)⟩ : S138), (rd_T42 l0 (rd l1 x6_1)).f3⟩ : S140) [.int .i64 ((rd_T42 l0 (rd l1 x6_1)).f0), .int .i64 ((rd_T42 l0 (rd l1 x6_1)).f1), .int .i64 ((rd_T42 l0 (rd l1 x6_1)).f2.f0), .string ((rd_T42 l0 (rd l1 x6_1)).f2.f1), .int .i64 ((rd_T42 l0 (rd l1 x6_1)).f2.f2), .int .i64 ((rd_T42 l0 (rd l1 x6_1)).f2.f3), .int .i64 ((rd_T42 l0 (rd l1 x6_1)).f3)] (fun _ => True) (fun _ => False) rfl rfl ?aP (fun _ hk => hk.elim) ?aF ?aO ?aB ?aS ?aL ?_; (case aP => exact k140_mkM _ _ _ (⟨(⟨(rd_T42 l0 (rd l1 x6_1)).f0, (rd_T42 l0 (rd l1 x6_1)).f1, (⟨(rd_T42 l0 (rd l1 x6_1)).f2.f0, (rd_T42 l0 (rd l1 x6_1)).f2.f1, (rd_T42 l0 (rd l1 x6_1)).f2.f2, (rd_T42 l0 (rd l1 x6_1)).f2.f3⟩ : S40)⟩ : S138), (rd_T42 l0 (rd l1 x6_1)).f3⟩ : S140)); (case aB => exact (bp HB.out)); (case aF => exact (fun _ _ => trivial)); (case aO => exact (kr HO_5.out)); (case aS => exact (below_size (bp HB.out))); (case aL => have := LMc13.out; omega); intro v246 w18 ho hb hg hat; rw [← Ny245.out] at ho; have n0_ := Aside0.mk (blk_grown (g := gb243) (o := .cells #[.int .i64 ((rd_T42 l0 (rd l1 x6_1)).f0), .int .i64 ((rd_T42 l0 (rd l1 x6_1)).f1), .int .i64 ((rd_T42 l0 (rd l1 x6_1)).f2.f0), .string ((rd_T42 l0 (rd l1 x6_1)).f2.f1), .int .i64 ((rd_T42 l0 (rd l1 x6_1)).f2.f2), .int .i64 ((rd_T42 l0 (rd l1 x6_1)).f2.f3), .int .i64 ((rd_T42 l0 (rd l1 x6_1)).f3), .int .i64 ((rd_T42 l0 (rd l1 x6_1)).f4), .int .i64 ((rd_T42 l0 (rd l1 x6_1)).f5)] 42 (0, 0)) (kb BK243.out) hg (Kd.R_ne HO_5.out BK243.out (by decide))); have n1_ := Aside0.mk (hb); have n2_ := Aside0.mk (ho); clear BK243; clear HB; clear HO_5; have BK243 := n0_; have HB := n1_; have HO247 := n2_; clear n0_ n1_ n2_; clear ho hb hg hat))
                    go_roundg k1
                    case measure => have := HK1.out; omega
                    case rel => exact ⟨(y245), (wrap64 (x6_1 + 1)), (by first | rfl | (simp; done) | (simp [*]; done) | (simp [bne_nil_, beq_nil_]; done)), H', ⟨by have := HK1.out; omega⟩, ⟨by (with_reducible repeat (first | apply Kd.R_alloc | apply Kd.R_drewN | apply Kd.R_drew)); exact HO247.out⟩, ⟨bp HB.out⟩⟩
                  · rw [if_neg c13] at H
                    exact absurd H (by simp)
                · replace c12 := Bool.eq_false_iff.mpr c12
                  subst c12
                  have H1 : (some false) = some r := by rw [if_neg (show ¬ (false = true) by decide)] at H; exact H
                  clear H
                  have H := H1
                  clear H1
                  obtain rfl := Option.some.inj H
                  have p241 : 0 ≤ (x6_1 : Int) := of_decide_eq_true (by first | (with_reducible assumption) | assumption)
                  have q241 : x6_1 < (l1.length : Int) := of_decide_eq_true (by first | (with_reducible assumption) | assumption)
                  obtain ⟨ad241, e241, hx241_0⟩ := Kd.at_int HR1.out x6_1 p241 q241
                  cases e241
                  replace hx241_0 := hcx HB hx241_0
                  replace p241 := eq_true p241
                  replace q241 := eq_true q241
                  have p242 : 0 ≤ ((rd l1 x6_1) : Int) := of_decide_eq_true (by first | (with_reducible assumption) | assumption)
                  have q242 : (rd l1 x6_1) < (l0.length : Int) := of_decide_eq_true (by first | (with_reducible assumption) | assumption)
                  obtain ⟨ad242, e242, hx242_0, hx242_1, hx242_2, hx242_3, hx242_4, hx242_5, hx242_6, hx242_7, hx242_8⟩ := at_T42 HR0.out (rd l1 x6_1) p242 q242
                  cases e242
                  replace hx242_0 := hcx HB hx242_0
                  replace hx242_1 := hcx HB hx242_1
                  replace hx242_2 := hcx HB hx242_2
                  replace hx242_3 := hcx HB hx242_3
                  replace hx242_4 := hcx HB hx242_4
                  replace hx242_5 := hcx HB hx242_5
                  replace hx242_6 := hcx HB hx242_6
                  replace hx242_7 := hcx HB hx242_7
                  replace hx242_8 := hcx HB hx242_8
                  replace p242 := eq_true p242
                  replace q242 := eq_true q242
                  go_wp2_with (first | ((with_reducible refine gate_dst (N := 7) rfl ?_); refine bxe (N := 7) (cs := #[.int .i64 0, .int .i64 0, .int .i64 0, .string (⟨#[]⟩ : ByteArray), .int .i64 0, .int .i64 0, .int .i64 0, .int .i64 0, .int .i64 0]) (t := 42) ?_; intro gb243 hg w19 hbox hb; have n0_ := Aside0.mk (Kd.R_below (kr HO_5.out) hb); have n1_ := an0 HB hb; have n2_ := Aside0.mk (hbox); have n3_ := an2 HB hg; have n4_ := an2 HB hg; clear HO_5; clear HB; have HO_5 := n0_; have HB := n1_; have BK243 := n2_; have GW243 := n3_; have GE243 := n4_; clear n0_ n1_ n2_ n3_ n4_; clear hb hbox hg; obtain ⟨hcz20_0, hcz20_1, hcz20_2, hcz20_3, hcz20_4, hcz20_5, hcz20_6, hcz20_7, hcz20_8, hfz20_0, hfz20_1, hfz20_2, hfz20_3, hfz20_4, hfz20_5, hfz20_6, hfz20_7, hfz20_8⟩ := cl9 BK243) | ((with_reducible refine gate_callee (f := 82) rfl ?_); refine gsl (some 30) rfl Try.func82 #[.agg #[.int .i64 ((rd_T42 l0 (rd l1 x6_1)).f0), .int .i64 ((rd_T42 l0 (rd l1 x6_1)).f1), .int .i64 ((rd_T42 l0 (rd l1 x6_1)).f2.f0), .string ((rd_T42 l0 (rd l1 x6_1)).f2.f1), .int .i64 ((rd_T42 l0 (rd l1 x6_1)).f2.f2), .int .i64 ((rd_T42 l0 (rd l1 x6_1)).f2.f3), .int .i64 ((rd_T42 l0 (rd l1 x6_1)).f3), .int .i64 ((rd_T42 l0 (rd l1 x6_1)).f4), .int .i64 ((rd_T42 l0 (rd l1 x6_1)).f5)]] rfl ?_; (with_reducible refine (spec_ResultValid.calls k1 ((rd_T42 l0 (rd l1 x6_1)).f0) ((rd_T42 l0 (rd l1 x6_1)).f1) ((rd_T42 l0 (rd l1 x6_1)).f2.f0) ((rd_T42 l0 (rd l1 x6_1)).f2.f1) ((rd_T42 l0 (rd l1 x6_1)).f2.f2) ((rd_T42 l0 (rd l1 x6_1)).f2.f3) ((rd_T42 l0 (rd l1 x6_1)).f3) ((rd_T42 l0 (rd l1 x6_1)).f4) ((rd_T42 l0 (rd l1 x6_1)).f5) false _ A11.out).mono ?_); rintro e w21 ⟨rfl, hb⟩; refine ⟨_, rfl, ?_⟩; have n0_ := Aside0.mk (Kd.R_below (by (with_reducible repeat (first | apply Kd.R_alloc | apply Kd.R_drewN | apply Kd.R_drew)); exact (Kd.R_mono (Kd.R_far (p := ⟨gb243, 8, none⟩) (Kd.R_far (p := ⟨gb243, 7, none⟩) (Kd.R_far (p := ⟨gb243, 6, none⟩) (Kd.R_far (p := ⟨gb243, 5, none⟩) (Kd.R_far (p := ⟨gb243, 4, none⟩) (Kd.R_far (p := ⟨gb243, 3, none⟩) (Kd.R_far (p := ⟨gb243, 2, none⟩) (Kd.R_far (p := ⟨gb243, 1, none⟩) (Kd.R_far (p := ⟨gb243, 0, none⟩) (Kd.R_types HO_5.out BK243.out (by decide)) (fun _ hk => hk.2) (.int .i64 ((rd_T42 l0 (rd l1 x6_1)).f0))) (fun _ hk => hk.2) (.int .i64 ((rd_T42 l0 (rd l1 x6_1)).f1))) (fun _ hk => hk.2) (.int .i64 ((rd_T42 l0 (rd l1 x6_1)).f2.f0))) (fun _ hk => hk.2) (.string ((rd_T42 l0 (rd l1 x6_1)).f2.f1))) (fun _ hk => hk.2) (.int .i64 ((rd_T42 l0 (rd l1 x6_1)).f2.f2))) (fun _ hk => hk.2) (.int .i64 ((rd_T42 l0 (rd l1 x6_1)).f2.f3))) (fun _ hk => hk.2) (.int .i64 ((rd_T42 l0 (rd l1 x6_1)).f3))) (fun _ hk => hk.2) (.int .i64 ((rd_T42 l0 (rd l1 x6_1)).f4))) (fun _ hk => hk.2) (.int .i64 ((rd_T42 l0 (rd l1 x6_1)).f5))) (fun _ h_ => h_.1))) hb); have n1_ := Aside0.mk (blk_below (g := gb243) (o := .cells #[.int .i64 ((rd_T42 l0 (rd l1 x6_1)).f0), .int .i64 ((rd_T42 l0 (rd l1 x6_1)).f1), .int .i64 ((rd_T42 l0 (rd l1 x6_1)).f2.f0), .string ((rd_T42 l0 (rd l1 x6_1)).f2.f1), .int .i64 ((rd_T42 l0 (rd l1 x6_1)).f2.f2), .int .i64 ((rd_T42 l0 (rd l1 x6_1)).f2.f3), .int .i64 ((rd_T42 l0 (rd l1 x6_1)).f3), .int .i64 ((rd_T42 l0 (rd l1 x6_1)).f4), .int .i64 ((rd_T42 l0 (rd l1 x6_1)).f5)] 42 (0, 0)) (by (with_reducible repeat (first | refine blk_drewN ?_ _ | refine blk_drew ?_ | refine blk_alloc ?_ _)); refine blk_put (cs := #[.int .i64 ((rd_T42 l0 (rd l1 x6_1)).f0), .int .i64 ((rd_T42 l0 (rd l1 x6_1)).f1), .int .i64 ((rd_T42 l0 (rd l1 x6_1)).f2.f0), .string ((rd_T42 l0 (rd l1 x6_1)).f2.f1), .int .i64 ((rd_T42 l0 (rd l1 x6_1)).f2.f2), .int .i64 ((rd_T42 l0 (rd l1 x6_1)).f2.f3), .int .i64 ((rd_T42 l0 (rd l1 x6_1)).f3), .int .i64 ((rd_T42 l0 (rd l1 x6_1)).f4), .int .i64 0]) ?_ 8 _ rfl; (with_reducible repeat (first | refine blk_drewN ?_ _ | refine blk_drew ?_ | refine blk_alloc ?_ _)); refine blk_put (cs := #[.int .i64 ((rd_T42 l0 (rd l1 x6_1)).f0), .int .i64 ((rd_T42 l0 (rd l1 x6_1)).f1), .int .i64 ((rd_T42 l0 (rd l1 x6_1)).f2.f0), .string ((rd_T42 l0 (rd l1 x6_1)).f2.f1), .int .i64 ((rd_T42 l0 (rd l1 x6_1)).f2.f2), .int .i64 ((rd_T42 l0 (rd l1 x6_1)).f2.f3), .int .i64 ((rd_T42 l0 (rd l1 x6_1)).f3), .int .i64 0, .int .i64 0]) ?_ 7 _ rfl; (with_reducible repeat (first | refine blk_drewN ?_ _ | refine blk_drew ?_ | refine blk_alloc ?_ _)); refine blk_put (cs := #[.int .i64 ((rd_T42 l0 (rd l1 x6_1)).f0), .int .i64 ((rd_T42 l0 (rd l1 x6_1)).f1), .int .i64 ((rd_T42 l0 (rd l1 x6_1)).f2.f0), .string ((rd_T42 l0 (rd l1 x6_1)).f2.f1), .int .i64 ((rd_T42 l0 (rd l1 x6_1)).f2.f2), .int .i64 ((rd_T42 l0 (rd l1 x6_1)).f2.f3), .int .i64 0, .int .i64 0, .int .i64 0]) ?_ 6 _ rfl; (with_reducible repeat (first | refine blk_drewN ?_ _ | refine blk_drew ?_ | refine blk_alloc ?_ _)); refine blk_put (cs := #[.int .i64 ((rd_T42 l0 (rd l1 x6_1)).f0), .int .i64 ((rd_T42 l0 (rd l1 x6_1)).f1), .int .i64 ((rd_T42 l0 (rd l1 x6_1)).f2.f0), .string ((rd_T42 l0 (rd l1 x6_1)).f2.f1), .int .i64 ((rd_T42 l0 (rd l1 x6_1)).f2.f2), .int .i64 0, .int .i64 0, .int .i64 0, .int .i64 0]) ?_ 5 _ rfl; (with_reducible repeat (first | refine blk_drewN ?_ _ | refine blk_drew ?_ | refine blk_alloc ?_ _)); refine blk_put (cs := #[.int .i64 ((rd_T42 l0 (rd l1 x6_1)).f0), .int .i64 ((rd_T42 l0 (rd l1 x6_1)).f1), .int .i64 ((rd_T42 l0 (rd l1 x6_1)).f2.f0), .string ((rd_T42 l0 (rd l1 x6_1)).f2.f1), .int .i64 0, .int .i64 0, .int .i64 0, .int .i64 0, .int .i64 0]) ?_ 4 _ rfl; (with_reducible repeat (first | refine blk_drewN ?_ _ | refine blk_drew ?_ | refine blk_alloc ?_ _)); refine blk_put (cs := #[.int .i64 ((rd_T42 l0 (rd l1 x6_1)).f0), .int .i64 ((rd_T42 l0 (rd l1 x6_1)).f1), .int .i64 ((rd_T42 l0 (rd l1 x6_1)).f2.f0), .string (⟨#[]⟩ : ByteArray), .int .i64 0, .int .i64 0, .int .i64 0, .int .i64 0, .int .i64 0]) ?_ 3 _ rfl; (with_reducible repeat (first | refine blk_drewN ?_ _ | refine blk_drew ?_ | refine blk_alloc ?_ _)); refine blk_put (cs := #[.int .i64 ((rd_T42 l0 (rd l1 x6_1)).f0), .int .i64 ((rd_T42 l0 (rd l1 x6_1)).f1), .int .i64 0, .string (⟨#[]⟩ : ByteArray), .int .i64 0, .int .i64 0, .int .i64 0, .int .i64 0, .int .i64 0]) ?_ 2 _ rfl; (with_reducible repeat (first | refine blk_drewN ?_ _ | refine blk_drew ?_ | refine blk_alloc ?_ _)); refine blk_put (cs := #[.int .i64 ((rd_T42 l0 (rd l1 x6_1)).f0), .int .i64 0, .int .i64 0, .string (⟨#[]⟩ : ByteArray), .int .i64 0, .int .i64 0, .int .i64 0, .int .i64 0, .int .i64 0]) ?_ 1 _ rfl; (with_reducible repeat (first | refine blk_drewN ?_ _ | refine blk_drew ?_ | refine blk_alloc ?_ _)); refine blk_put (cs := #[.int .i64 0, .int .i64 0, .int .i64 0, .string (⟨#[]⟩ : ByteArray), .int .i64 0, .int .i64 0, .int .i64 0, .int .i64 0, .int .i64 0]) ?_ 0 _ rfl; (with_reducible repeat (first | refine blk_drewN ?_ _ | refine blk_drew ?_ | refine blk_alloc ?_ _)); exact BK243.out) hb); have n2_ := an0 HB hb; clear HO_5; clear BK243; clear HB; have HO_5 := n0_; have BK243 := n1_; have HB := n2_; clear n0_ n1_ n2_; (try clear hb); (try clear hb2); (try clear hk); (try clear hi)))
                  go_ret
                  exact ⟨fe, bp HB.out⟩
              · rw [if_neg c10] at H
                exact absurd H (by simp)
            · rw [if_neg c9] at H
              exact absurd H (by simp)
          · rw [if_neg c8] at H
            exact absurd H (by simp)
        · rw [if_neg c7] at H
          have c7b0 : decide (x6_1 < (l1.length : Int)) = false := decide_eq_false c7
          clear c7
          replace H := Option.bind_eq_some_iff.mp H
          obtain ⟨⟨t248, t249⟩, A220, H⟩ := H
          replace H : (some t249) = some r := H
          have A22 := Aside0.mk A220
          clear A220
          obtain rfl := Option.some.inj H
          obtain ⟨Ao23, co23, eo23⟩ := Kd.R_slice HO_5.out
          subst eo23
          go_wp2_with (first | ((with_reducible refine gate_callee (f := 118) rfl ?_); refine gsl (some 47) rfl Try.func118 #[.slice Ao23 x5_1.length co23] rfl ?_; (with_reducible refine (spec_RunHistory.calls k1 _ _ x5_1 t248 t249 _ ?side1 ?side2 A22.out).mono ?_); (case side1 => repeat (first | exact (Kd.R_reads' HO_5.out).2.2 | (with_reducible refine Kd.C_alloc ?_ _) | (with_reducible refine Kd.C_drewN ?_ _) | (with_reducible refine Kd.C_drew ?_))); (case side2 => exact (Kd.R_reads' HO_5.out).2.1); rintro e w24 ⟨v250, rfl, ho0, hb⟩; refine ⟨_, rfl, ?_⟩; have n0_ := Aside0.mk (Kd.R_below (kr HO_5.out) hb); have n1_ := Aside0.mk (Kd.R_lower ho0 (below_size (bp HB.out))); have n2_ := an0 HB hb; clear HO_5; clear HB; have HO_5 := n0_; have HO251 := n1_; have HB := n2_; clear n0_ n1_ n2_; (try clear hb); (try clear hb2); (try clear hk); (try clear hi); (try clear ho0)))
          go_ret
          exact ⟨fe, bp HB.out⟩
  · replace c4 := Bool.eq_false_iff.mpr c4
    subst c4
    have H1 : (some false) = some r := by rw [if_neg (show ¬ (false = true) by decide)] at H; exact H
    clear H
    have H := H1
    clear H1
    obtain rfl := Option.some.inj H
    go_enter Try.func65, Try.ntmps65
    go_wp2_with (first | ((with_reducible refine gate_callee (f := 81) rfl ?_); refine gsl (some 13) rfl Try.func81 #[.int .i64 (l0.length : Int), .slice A1 l1.length c1] rfl ?_; (with_reducible refine (spec_OrderValid.calls k (l0.length : Int) _ _ l1 false _ ?side1 ?side2 A3.out).mono ?_); (case side1 => exact cc HR1.out); (case side2 => exact HC1.out); rintro e w' ⟨rfl, ⟨nd, rfl⟩⟩; refine ⟨_, rfl, ?_⟩))
    go_ret
    exact ⟨fe, bp HB.out⟩

/-! ### laws_toCommand: function 154 -/
def laws_toCommand.f (a0_0 : Int) (a0_1 : ByteArray) (a0_2 : Int) (a0_3 : Int) : Option (Int × ByteArray × Int × Int) := some (a0_0, a0_1, a0_2, a0_3)
set_option maxHeartbeats 8000000 in
set_option maxRecDepth 100000 in
theorem laws_toCommand.calls (a0_0 : Int) (a0_1 : ByteArray) (a0_2 : Int) (a0_3 : Int) (r1 : Int) (r2 : ByteArray) (r3 : Int) (r4 : Int) (w : World) (h : laws_toCommand.f a0_0 a0_1 a0_2 a0_3 = some (r1, r2, r3, r4)) :
    Calls Try.prog 154 #[.agg #[.int .i64 a0_0, .string a0_1, .int .i64 a0_2, .int .i64 a0_3]] w fun e w' => e = .returned (.agg #[.int .i64 r1, .string r2, .int .i64 r3, .int .i64 r4]) ∧ Below w.heap.size w w' := by
  have hu133 := Try.underlying133
  have hu40 := Try.underlying40
  have HB := Aside0.mk (Below.refl w.heap.size w)
  have H : (some (a0_0, a0_1, a0_2, a0_3)) = some (r1, r2, r3, r4) := h
  clear h
  simp only [Option.some.injEq, Prod.mk.injEq] at H
  obtain ⟨rfl, rfl, rfl, rfl⟩ := H
  go_enter Try.func154, Try.ntmps154
  go_wp2_with (first | ((with_reducible refine gate_dst (N := 1) rfl ?_); refine bxe (N := 1) (cs := #[.int .i64 a0_0, .string a0_1, .int .i64 a0_2, .int .i64 a0_3]) (t := 133) ?_; intro gb252 hg w2 hbox hb; have BK252 := Aside0.mk (hbox); have GW252 := an2 HB hg; have GE252 := an2 HB hg; replace HB := an0 HB hb; clear hb hbox hg) | ((with_reducible refine gate_dst (N := 2) rfl ?_); refine bxe (N := 2) (cs := #[.int .i64 0, .string (⟨#[]⟩ : ByteArray), .int .i64 0, .int .i64 0]) (t := 40) ?_; intro gb253 hg w3 hbox hb; have BK253 := Aside0.mk (hbox); have GW253 := an2 HB hg; have GE253 := an2 HB hg; have NB252_253 := an3 BK252 hg; have NB253_252 := an4 BK252 hg; replace BK252 := an1 BK252 hb; replace HB := an0 HB hb; clear hb hbox hg) | ((with_reducible refine gate_dst (N := 3) rfl ?_); refine bxe (N := 3) (cs := #[.int .i64 0, .string (⟨#[]⟩ : ByteArray), .int .i64 0, .int .i64 0]) (t := 40) ?_; intro gb254 hg w4 hbox hb; have BK254 := Aside0.mk (hbox); have GW254 := an2 HB hg; have GE254 := an2 HB hg; have NB252_254 := an3 BK252 hg; have NB254_252 := an4 BK252 hg; have NB253_254 := an3 BK253 hg; have NB254_253 := an4 BK253 hg; replace BK252 := an1 BK252 hb; replace BK253 := an1 BK253 hb; replace HB := an0 HB hb; clear hb hbox hg; have hnb5 := NB252_253.out; have hnc5 := NB253_252.out; have hnb6 := NB252_254.out; have hnc6 := NB254_252.out; obtain ⟨hcz7_0, hcz7_1, hcz7_2, hcz7_3, hfz7_0, hfz7_1, hfz7_2, hfz7_3⟩ := cl4 BK252; have hnb8 := NB254_253.out; have hnc8 := NB253_254.out; obtain ⟨hcz9_0, hcz9_1, hcz9_2, hcz9_3, hfz9_0, hfz9_1, hfz9_2, hfz9_3⟩ := cl4 BK254; obtain ⟨hcz10_0, hcz10_1, hcz10_2, hcz10_3, hfz10_0, hfz10_1, hfz10_2, hfz10_3⟩ := cl4 BK253))
  refine bodyPost_ret (results_cell_row rfl _ _ gb253 40 #[.int .i64 a0_0, .string a0_1, .int .i64 a0_2, .int .i64 a0_3] (0, 0) _ rfl (by (with_reducible repeat (first | refine blk_drewN ?_ _ | refine blk_drew ?_ | refine blk_alloc ?_ _)); refine blk_put (cs := #[.int .i64 a0_0, .string a0_1, .int .i64 a0_2, .int .i64 0]) ?_ 3 _ rfl; (with_reducible repeat (first | refine blk_drewN ?_ _ | refine blk_drew ?_ | refine blk_alloc ?_ _)); refine blk_put (cs := #[.int .i64 a0_0, .string a0_1, .int .i64 0, .int .i64 0]) ?_ 2 _ rfl; (with_reducible repeat (first | refine blk_drewN ?_ _ | refine blk_drew ?_ | refine blk_alloc ?_ _)); refine blk_put (cs := #[.int .i64 a0_0, .string (⟨#[]⟩ : ByteArray), .int .i64 0, .int .i64 0]) ?_ 1 _ rfl; (with_reducible repeat (first | refine blk_drewN ?_ _ | refine blk_drew ?_ | refine blk_alloc ?_ _)); refine blk_put (cs := #[.int .i64 0, .string (⟨#[]⟩ : ByteArray), .int .i64 0, .int .i64 0]) ?_ 0 _ rfl; (with_reducible repeat (first | refine blk_drewN ?_ _ | refine blk_drew ?_ | refine blk_alloc ?_ _)); refine blk_far ?_ NB253_254.out _; (with_reducible repeat (first | refine blk_drewN ?_ _ | refine blk_drew ?_ | refine blk_alloc ?_ _)); refine blk_far ?_ NB253_254.out _; (with_reducible repeat (first | refine blk_drewN ?_ _ | refine blk_drew ?_ | refine blk_alloc ?_ _)); refine blk_far ?_ NB253_254.out _; (with_reducible repeat (first | refine blk_drewN ?_ _ | refine blk_drew ?_ | refine blk_alloc ?_ _)); refine blk_far ?_ NB253_254.out _; (with_reducible repeat (first | refine blk_drewN ?_ _ | refine blk_drew ?_ | refine blk_alloc ?_ _)); exact BK253.out) Try.underlying40 rfl (by kernel_rfl)) rfl ?_
  exact ⟨fe, bp HB.out⟩

/-! ### laws_toResult: function 119 -/
def laws_toResult.f (a0_0 : Int) (a0_1 : Int) (a0_2 : Int) (a0_3 : ByteArray) (a0_4 : Int) (a0_5 : Int) (a0_6 : Int) (a0_7 : Int) (a0_8 : Int) : Option (Int × Int × Int × ByteArray × Int × Int × Int × Int × Int) := (laws_toCommand.f a0_2 a0_3 a0_4 a0_5).bind fun bt258 => (some (a0_0, a0_1, bt258.1, bt258.2.1, bt258.2.2.1, bt258.2.2.2, a0_6, a0_7, a0_8))
set_option maxHeartbeats 8000000 in
set_option maxRecDepth 100000 in
theorem laws_toResult.calls (a0_0 : Int) (a0_1 : Int) (a0_2 : Int) (a0_3 : ByteArray) (a0_4 : Int) (a0_5 : Int) (a0_6 : Int) (a0_7 : Int) (a0_8 : Int) (r1 : Int) (r2 : Int) (r3 : Int) (r4 : ByteArray) (r5 : Int) (r6 : Int) (r7 : Int) (r8 : Int) (r9 : Int) (w : World) (h : laws_toResult.f a0_0 a0_1 a0_2 a0_3 a0_4 a0_5 a0_6 a0_7 a0_8 = some (r1, r2, r3, r4, r5, r6, r7, r8, r9)) :
    Calls Try.prog 119 #[.agg #[.int .i64 a0_0, .int .i64 a0_1, .int .i64 a0_2, .string a0_3, .int .i64 a0_4, .int .i64 a0_5, .int .i64 a0_6, .int .i64 a0_7, .int .i64 a0_8]] w fun e w' => e = .returned (.agg #[.int .i64 r1, .int .i64 r2, .int .i64 r3, .string r4, .int .i64 r5, .int .i64 r6, .int .i64 r7, .int .i64 r8, .int .i64 r9]) ∧ Below w.heap.size w w' := by
  have hu135 := Try.underlying135
  have hu42 := Try.underlying42
  have hu133 := Try.underlying133
  have hu40 := Try.underlying40
  have HB := Aside0.mk (Below.refl w.heap.size w)
  have H : ((laws_toCommand.f a0_2 a0_3 a0_4 a0_5).bind fun bt258 => (some (a0_0, a0_1, bt258.1, bt258.2.1, bt258.2.2.1, bt258.2.2.2, a0_6, a0_7, a0_8))) = some (r1, r2, r3, r4, r5, r6, r7, r8, r9) := h
  clear h
  replace H := Option.bind_eq_some_iff.mp H
  obtain ⟨⟨t258, t259, t260, t261⟩, A20, H⟩ := H
  replace H : (some (a0_0, a0_1, t258, t259, t260, t261, a0_6, a0_7, a0_8)) = some (r1, r2, r3, r4, r5, r6, r7, r8, r9) := H
  have A2 := Aside0.mk A20
  clear A20
  simp only [Option.some.injEq, Prod.mk.injEq] at H
  obtain ⟨rfl, rfl, rfl, rfl, rfl, rfl, rfl, rfl, rfl⟩ := H
  go_enter Try.func119, Try.ntmps119
  go_wp2_with (first | ((with_reducible refine gate_dst (N := 1) rfl ?_); refine bxe (N := 1) (cs := #[.int .i64 a0_0, .int .i64 a0_1, .int .i64 a0_2, .string a0_3, .int .i64 a0_4, .int .i64 a0_5, .int .i64 a0_6, .int .i64 a0_7, .int .i64 a0_8]) (t := 135) ?_; intro gb255 hg w3 hbox hb; have BK255 := Aside0.mk (hbox); have GW255 := an2 HB hg; have GE255 := an2 HB hg; replace HB := an0 HB hb; clear hb hbox hg) | ((with_reducible refine gate_dst (N := 2) rfl ?_); refine bxe (N := 2) (cs := #[.int .i64 0, .int .i64 0, .int .i64 0, .string (⟨#[]⟩ : ByteArray), .int .i64 0, .int .i64 0, .int .i64 0, .int .i64 0, .int .i64 0]) (t := 42) ?_; intro gb256 hg w4 hbox hb; have BK256 := Aside0.mk (hbox); have GW256 := an2 HB hg; have GE256 := an2 HB hg; have NB255_256 := an3 BK255 hg; have NB256_255 := an4 BK255 hg; replace BK255 := an1 BK255 hb; replace HB := an0 HB hb; clear hb hbox hg) | ((with_reducible refine gate_dst (N := 3) rfl ?_); refine bxe (N := 3) (cs := #[.int .i64 0, .int .i64 0, .int .i64 0, .string (⟨#[]⟩ : ByteArray), .int .i64 0, .int .i64 0, .int .i64 0, .int .i64 0, .int .i64 0]) (t := 42) ?_; intro gb257 hg w5 hbox hb; have BK257 := Aside0.mk (hbox); have GW257 := an2 HB hg; have GE257 := an2 HB hg; have NB255_257 := an3 BK255 hg; have NB257_255 := an4 BK255 hg; have NB256_257 := an3 BK256 hg; have NB257_256 := an4 BK256 hg; replace BK255 := an1 BK255 hb; replace BK256 := an1 BK256 hb; replace HB := an0 HB hb; clear hb hbox hg; have hnb6 := NB255_256.out; have hnc6 := NB256_255.out; have hnb7 := NB255_257.out; have hnc7 := NB257_255.out; obtain ⟨hcz8_0, hcz8_1, hcz8_2, hcz8_3, hcz8_4, hcz8_5, hcz8_6, hcz8_7, hcz8_8, hfz8_0, hfz8_1, hfz8_2, hfz8_3, hfz8_4, hfz8_5, hfz8_6, hfz8_7, hfz8_8⟩ := cl9 BK255; have hnb9 := NB257_256.out; have hnc9 := NB256_257.out; obtain ⟨hcz10_0, hcz10_1, hcz10_2, hcz10_3, hcz10_4, hcz10_5, hcz10_6, hcz10_7, hcz10_8, hfz10_0, hfz10_1, hfz10_2, hfz10_3, hfz10_4, hfz10_5, hfz10_6, hfz10_7, hfz10_8⟩ := cl9 BK257) | ((with_reducible refine gate_callee (f := 154) rfl ?_); refine gsl (some 12) rfl Try.func154 #[.agg #[.int .i64 a0_2, .string a0_3, .int .i64 a0_4, .int .i64 a0_5]] rfl ?_; (with_reducible refine (laws_toCommand.calls a0_2 a0_3 a0_4 a0_5 t258 t259 t260 t261 _ A2.out).mono ?_); rintro e w11 ⟨rfl, hb⟩; refine ⟨_, rfl, ?_⟩; have n0_ := Aside0.mk (blk_below (g := gb255) (o := .cells #[.int .i64 a0_0, .int .i64 a0_1, .int .i64 a0_2, .string a0_3, .int .i64 a0_4, .int .i64 a0_5, .int .i64 a0_6, .int .i64 a0_7, .int .i64 a0_8] 135 (0, 0)) (by (with_reducible repeat (first | refine blk_drewN ?_ _ | refine blk_drew ?_ | refine blk_alloc ?_ _)); refine blk_far ?_ NB255_257.out _; (with_reducible repeat (first | refine blk_drewN ?_ _ | refine blk_drew ?_ | refine blk_alloc ?_ _)); refine blk_far ?_ NB255_257.out _; (with_reducible repeat (first | refine blk_drewN ?_ _ | refine blk_drew ?_ | refine blk_alloc ?_ _)); exact BK255.out) hb); have n1_ := Aside0.mk (blk_below (g := gb256) (o := .cells #[.int .i64 0, .int .i64 0, .int .i64 0, .string (⟨#[]⟩ : ByteArray), .int .i64 0, .int .i64 0, .int .i64 0, .int .i64 0, .int .i64 0] 42 (0, 0)) (by (with_reducible repeat (first | refine blk_drewN ?_ _ | refine blk_drew ?_ | refine blk_alloc ?_ _)); refine blk_far ?_ NB256_257.out _; (with_reducible repeat (first | refine blk_drewN ?_ _ | refine blk_drew ?_ | refine blk_alloc ?_ _)); refine blk_far ?_ NB256_257.out _; (with_reducible repeat (first | refine blk_drewN ?_ _ | refine blk_drew ?_ | refine blk_alloc ?_ _)); exact BK256.out) hb); have n2_ := Aside0.mk (blk_below (g := gb257) (o := .cells #[.int .i64 a0_0, .int .i64 a0_1, .int .i64 0, .string (⟨#[]⟩ : ByteArray), .int .i64 0, .int .i64 0, .int .i64 0, .int .i64 0, .int .i64 0] 42 (0, 0)) (by (with_reducible repeat (first | refine blk_drewN ?_ _ | refine blk_drew ?_ | refine blk_alloc ?_ _)); refine blk_put (cs := #[.int .i64 a0_0, .int .i64 0, .int .i64 0, .string (⟨#[]⟩ : ByteArray), .int .i64 0, .int .i64 0, .int .i64 0, .int .i64 0, .int .i64 0]) ?_ 1 _ rfl; (with_reducible repeat (first | refine blk_drewN ?_ _ | refine blk_drew ?_ | refine blk_alloc ?_ _)); refine blk_put (cs := #[.int .i64 0, .int .i64 0, .int .i64 0, .string (⟨#[]⟩ : ByteArray), .int .i64 0, .int .i64 0, .int .i64 0, .int .i64 0, .int .i64 0]) ?_ 0 _ rfl; (with_reducible repeat (first | refine blk_drewN ?_ _ | refine blk_drew ?_ | refine blk_alloc ?_ _)); exact BK257.out) hb); have n3_ := an0 HB hb; clear BK255; clear BK256; clear BK257; clear HB; have BK255 := n0_; have BK256 := n1_; have BK257 := n2_; have HB := n3_; clear n0_ n1_ n2_ n3_; (try clear hb); (try clear hb2); (try clear hk); (try clear hi); obtain ⟨hcz12_0, hcz12_1, hcz12_2, hcz12_3, hcz12_4, hcz12_5, hcz12_6, hcz12_7, hcz12_8, hfz12_0, hfz12_1, hfz12_2, hfz12_3, hfz12_4, hfz12_5, hfz12_6, hfz12_7, hfz12_8⟩ := cl9 BK257; obtain ⟨hcz13_0, hcz13_1, hcz13_2, hcz13_3, hcz13_4, hcz13_5, hcz13_6, hcz13_7, hcz13_8, hfz13_0, hfz13_1, hfz13_2, hfz13_3, hfz13_4, hfz13_5, hfz13_6, hfz13_7, hfz13_8⟩ := cl9 BK255; obtain ⟨hcz14_0, hcz14_1, hcz14_2, hcz14_3, hcz14_4, hcz14_5, hcz14_6, hcz14_7, hcz14_8, hfz14_0, hfz14_1, hfz14_2, hfz14_3, hfz14_4, hfz14_5, hfz14_6, hfz14_7, hfz14_8⟩ := cl9 BK256))
  refine bodyPost_ret (results_cell_row rfl _ _ gb256 42 #[.int .i64 a0_0, .int .i64 a0_1, .int .i64 t258, .string t259, .int .i64 t260, .int .i64 t261, .int .i64 a0_6, .int .i64 a0_7, .int .i64 a0_8] (0, 0) _ rfl (by (with_reducible repeat (first | refine blk_drewN ?_ _ | refine blk_drew ?_ | refine blk_alloc ?_ _)); refine blk_put (cs := #[.int .i64 a0_0, .int .i64 a0_1, .int .i64 t258, .string t259, .int .i64 t260, .int .i64 t261, .int .i64 a0_6, .int .i64 a0_7, .int .i64 0]) ?_ 8 _ rfl; (with_reducible repeat (first | refine blk_drewN ?_ _ | refine blk_drew ?_ | refine blk_alloc ?_ _)); refine blk_put (cs := #[.int .i64 a0_0, .int .i64 a0_1, .int .i64 t258, .string t259, .int .i64 t260, .int .i64 t261, .int .i64 a0_6, .int .i64 0, .int .i64 0]) ?_ 7 _ rfl; (with_reducible repeat (first | refine blk_drewN ?_ _ | refine blk_drew ?_ | refine blk_alloc ?_ _)); refine blk_put (cs := #[.int .i64 a0_0, .int .i64 a0_1, .int .i64 t258, .string t259, .int .i64 t260, .int .i64 t261, .int .i64 0, .int .i64 0, .int .i64 0]) ?_ 6 _ rfl; (with_reducible repeat (first | refine blk_drewN ?_ _ | refine blk_drew ?_ | refine blk_alloc ?_ _)); refine blk_put (cs := #[.int .i64 a0_0, .int .i64 a0_1, .int .i64 t258, .string t259, .int .i64 t260, .int .i64 0, .int .i64 0, .int .i64 0, .int .i64 0]) ?_ 5 _ rfl; (with_reducible repeat (first | refine blk_drewN ?_ _ | refine blk_drew ?_ | refine blk_alloc ?_ _)); refine blk_put (cs := #[.int .i64 a0_0, .int .i64 a0_1, .int .i64 t258, .string t259, .int .i64 0, .int .i64 0, .int .i64 0, .int .i64 0, .int .i64 0]) ?_ 4 _ rfl; (with_reducible repeat (first | refine blk_drewN ?_ _ | refine blk_drew ?_ | refine blk_alloc ?_ _)); refine blk_put (cs := #[.int .i64 a0_0, .int .i64 a0_1, .int .i64 t258, .string (⟨#[]⟩ : ByteArray), .int .i64 0, .int .i64 0, .int .i64 0, .int .i64 0, .int .i64 0]) ?_ 3 _ rfl; (with_reducible repeat (first | refine blk_drewN ?_ _ | refine blk_drew ?_ | refine blk_alloc ?_ _)); refine blk_put (cs := #[.int .i64 a0_0, .int .i64 a0_1, .int .i64 0, .string (⟨#[]⟩ : ByteArray), .int .i64 0, .int .i64 0, .int .i64 0, .int .i64 0, .int .i64 0]) ?_ 2 _ rfl; (with_reducible repeat (first | refine blk_drewN ?_ _ | refine blk_drew ?_ | refine blk_alloc ?_ _)); refine blk_put (cs := #[.int .i64 a0_0, .int .i64 0, .int .i64 0, .string (⟨#[]⟩ : ByteArray), .int .i64 0, .int .i64 0, .int .i64 0, .int .i64 0, .int .i64 0]) ?_ 1 _ rfl; (with_reducible repeat (first | refine blk_drewN ?_ _ | refine blk_drew ?_ | refine blk_alloc ?_ _)); refine blk_put (cs := #[.int .i64 0, .int .i64 0, .int .i64 0, .string (⟨#[]⟩ : ByteArray), .int .i64 0, .int .i64 0, .int .i64 0, .int .i64 0, .int .i64 0]) ?_ 0 _ rfl; (with_reducible repeat (first | refine blk_drewN ?_ _ | refine blk_drew ?_ | refine blk_alloc ?_ _)); refine blk_far ?_ NB256_257.out _; (with_reducible repeat (first | refine blk_drewN ?_ _ | refine blk_drew ?_ | refine blk_alloc ?_ _)); refine blk_far ?_ NB256_257.out _; (with_reducible repeat (first | refine blk_drewN ?_ _ | refine blk_drew ?_ | refine blk_alloc ?_ _)); refine blk_far ?_ NB256_257.out _; (with_reducible repeat (first | refine blk_drewN ?_ _ | refine blk_drew ?_ | refine blk_alloc ?_ _)); refine blk_far ?_ NB256_257.out _; (with_reducible repeat (first | refine blk_drewN ?_ _ | refine blk_drew ?_ | refine blk_alloc ?_ _)); refine blk_far ?_ NB256_257.out _; (with_reducible repeat (first | refine blk_drewN ?_ _ | refine blk_drew ?_ | refine blk_alloc ?_ _)); refine blk_far ?_ NB256_257.out _; (with_reducible repeat (first | refine blk_drewN ?_ _ | refine blk_drew ?_ | refine blk_alloc ?_ _)); refine blk_far ?_ NB256_257.out _; (with_reducible repeat (first | refine blk_drewN ?_ _ | refine blk_drew ?_ | refine blk_alloc ?_ _)); exact BK256.out) Try.underlying42 rfl (by kernel_rfl)) rfl ?_
  exact ⟨fe, bp HB.out⟩

/-! ### laws_toResultS: function 66 -/
def laws_toResultS.l0 : Nat → List (S135) → List (S42) → Int → Option ((List (S42)))
  | 0, _, _, _ => none
  | k + 1, x0, x3, x4 => if x4 < (x0.length : Int) then (if 0 ≤ x4 then ((laws_toResult.f ((rd_T135 x0 x4).f0) ((rd_T135 x0 x4).f1) ((rd_T135 x0 x4).f2.f0) ((rd_T135 x0 x4).f2.f1) ((rd_T135 x0 x4).f2.f2) ((rd_T135 x0 x4).f2.f3) ((rd_T135 x0 x4).f3) ((rd_T135 x0 x4).f4) ((rd_T135 x0 x4).f5)).bind fun bt266 => (if x4 < (x3.length : Int) then (laws_toResultS.l0 k x0 (x3.set (x4 : Int).toNat (⟨bt266.1, bt266.2.1, (⟨bt266.2.2.1, bt266.2.2.2.1, bt266.2.2.2.2.1, bt266.2.2.2.2.2.1⟩ : S40), bt266.2.2.2.2.2.2.1, bt266.2.2.2.2.2.2.2.1, bt266.2.2.2.2.2.2.2.2⟩ : S42)) (wrap64 (x4 + 1))) else (none))) else (none)) else (some x3)
def laws_toResultS.f (k : Nat) (l0 : List (S135)) : Option ((List (S42))) := if 0 ≤ (l0.length : Int) then (if ((l0.length : Int) : Int).toNat ≤ 3518437208883 then (laws_toResultS.l0 k l0 (List.replicate ((l0.length : Int) : Int).toNat z42) 0) else (none)) else (none)
theorem laws_toResultS.mono_l : ∀ k, (∀ y0 y1 y2, LeO (laws_toResultS.l0 k y0 y1 y2) (laws_toResultS.l0 (k + 1) y0 y1 y2))
  | 0 => fun _ _ _ r h => by simp [laws_toResultS.l0] at h
  | k + 1 => by
    have ih0 := laws_toResultS.mono_l k
    · intro y0 y1 y2
      unfold laws_toResultS.l0
      repeat' first
      | (with_reducible exact ih0 _ _ _)
      | (with_reducible exact LeO.refl _)
      | (with_reducible exact LeO.none _)
      | (with_reducible refine LeO.ite ?_ ?_)
      | (with_reducible refine LeO.bind ?_ (fun _ => ?_))
      | exact ih0 _ _ _
      | exact LeO.none _
      | refine LeO.ite ?_ ?_
      | refine LeO.bind ?_ (fun _ => ?_)
theorem laws_toResultS.mono : ∀ a0 k, LeO (laws_toResultS.f k a0) (laws_toResultS.f (k + 1) a0) := by
  intro a0 k
  have ih0 := laws_toResultS.mono_l k
  unfold laws_toResultS.f
  repeat' first
      | (with_reducible exact ih0 _ _ _)
      | (with_reducible exact LeO.refl _)
      | (with_reducible exact LeO.none _)
      | (with_reducible refine LeO.ite ?_ ?_)
      | (with_reducible refine LeO.bind ?_ (fun _ => ?_))
      | exact ih0 _ _ _
      | exact LeO.none _
      | refine LeO.ite ?_ ?_
      | refine LeO.bind ?_ (fun _ => ?_)
set_option maxHeartbeats 8000000 in
set_option maxRecDepth 100000 in
theorem laws_toResultS.calls (k : Nat) (A0 : Option Addr) (c0 : Nat) (l0 : List (S135)) (r : List (S42)) (w : World) (hr0 : Kd.C k135 w A0 l0.length l0) (hc0 : l0.length ≤ c0) (h : laws_toResultS.f k l0 = some r) :
    Calls Try.prog 66 #[.slice A0 l0.length c0] w fun e w' => ∃ v0_ : Value, e = .returned (v0_) ∧ Kd.R k42 42 w' w.heap.size (fun _ => True) v0_ r ∧ Below w.heap.size w w' := by
  have hu135 := Try.underlying135
  have hu42 := Try.underlying42
  have HR0 := Aside0.mk hr0
  have HC0 := Aside0.mk hc0
  clear hr0 hc0
  have HB := Aside0.mk (Below.refl w.heap.size w)
  have H : (if 0 ≤ (l0.length : Int) then (if ((l0.length : Int) : Int).toNat ≤ 3518437208883 then (laws_toResultS.l0 k l0 (List.replicate ((l0.length : Int) : Int).toNat z42) 0) else (none)) else (none)) = some r := h
  clear h
  by_cases c2 : 0 ≤ (l0.length : Int)
  · rw [if_pos c2] at H
    have c2b0 := eq_true c2
    have c2b1 : decide (0 ≤ (l0.length : Int)) = true := decide_eq_true c2
    clear c2
    by_cases c3 : ((l0.length : Int) : Int).toNat ≤ 3518437208883
    · rw [if_pos c3] at H
      have c3b0 := eq_true c3
      have c3b1 : decide (((l0.length : Int) : Int).toNat ≤ 3518437208883) = true := decide_eq_true c3
      clear c3
      obtain ⟨y262, hy262⟩ : ∃ y_ : List (S42), y_ = (List.replicate ((l0.length : Int) : Int).toNat z42) := ⟨_, rfl⟩
      replace H : (laws_toResultS.l0 k l0 y262 0) = some r := by first | (rw [hy262]; with_reducible exact H) | (have H2_ := (Option.bind_some _ _).symm.trans H; rw [hy262]; with_reducible exact H2_) | (have H2_ := (Option.bind_some _ _).symm.trans H; with_reducible exact H2_) | with_reducible exact H | (rw [hy262]; exact H) | exact H
      have Ny262 := Aside0.mk hy262
      clear hy262
      have H' := Aside0.mk H
      clear H
      go_enter Try.func66, Try.ntmps66
      go_wp2_with (first | ((with_reducible refine gate_dst (N := 7) rfl ?_); refine Kd.R_make k42 _ 42 rfl (N := 7) rfl 32 _ _ rfl (l0.length : Int) rfl rfl Try.underlying32 (.agg #[(.int .i64 0), (.int .i64 0), (.int .i64 0), (.string ⟨#[]⟩), (.int .i64 0), (.int .i64 0), (.int .i64 0), (.int .i64 0), (.int .i64 0)]) 80 info42 rfl (by decide) (by omega) z42 (ok := fun _ => True) (okp := fun _ => True) (k42_mkM _ _ _ z42 ) (fun _ hk => hk) trivial (of_decide_eq_true (by first | (with_reducible assumption) | assumption)) (Nat.le_trans (Nat.mul_le_mul_right _ (of_decide_eq_true (by first | (with_reducible assumption) | assumption) : (l0.length : Int).toNat ≤ 3518437208883)) (by omega)) (Below.refl _ _) (Nat.le_refl _) ?_; intro v263 w4 ho5 hb hg_ hnew_; clear hg_ hnew_; (first | rw [← Ny262.out] at ho5 | (simp only [Int.reduceToNat] at ho5; rw [← Ny262.out] at ho5)); have n0_ := Aside0.mk (Kd.R_lower ho5 (below_size (bp HB.out))); have n1_ := an0 HB hb; clear HB; have HO264 := n0_; have HB := n1_; clear n0_ n1_; clear hb ho5))
      go_loopg [4] k (fun kq v4 w' => ∃ (x3_1 : List (S42)) (x4_1 : Int), v4 = .int .i64 x4_1 ∧ Aside0 (laws_toResultS.l0 kq l0 x3_1 x4_1 = some r) ∧ Aside0 (kq ≤ k) ∧ Aside0 (Kd.R k42 42 w' w.heap.size (fun _ => True) v263 x3_1) ∧ Aside0 (Below w.heap.size w w'))
      case atStart => exact ⟨(y262), (0), (by first | rfl | (simp; done) | (simp [*]; done) | (simp [bne_nil_, beq_nil_]; done)), H', ⟨Nat.le_refl _⟩, ⟨by (with_reducible repeat (first | apply Kd.R_alloc | apply Kd.R_drewN | apply Kd.R_drew)); exact HO264.out⟩, ⟨bp HB.out⟩⟩
      case round =>
        clear H'
        try clear c2
        try clear c2b0
        try clear c2b1
        try clear p2
        try clear c3
        try clear c3b0
        try clear c3b1
        obtain ⟨x3_1, x4_1, rfl, HA, HK1, HO_3, HB⟩ := hrel
        cases gk with
        | zero => exact absurd HA.out (by simp [laws_toResultS.l0])
        | succ k1 =>
          have H := HA.out
          clear HA
          simp only [laws_toResultS.l0] at H
          by_cases c6 : x4_1 < (l0.length : Int)
          · rw [if_pos c6] at H
            have c6b0 : decide (x4_1 < (l0.length : Int)) = true := decide_eq_true c6
            clear c6
            by_cases c7 : 0 ≤ x4_1
            · rw [if_pos c7] at H
              have c7b0 : decide (0 ≤ x4_1) = true := decide_eq_true c7
              clear c7
              replace H := Option.bind_eq_some_iff.mp H
              obtain ⟨⟨t266, t267, t268, t269, t270, t271, t272, t273, t274⟩, A80, H⟩ := H
              replace H : (if x4_1 < (x3_1.length : Int) then (laws_toResultS.l0 k1 l0 (x3_1.set (x4_1 : Int).toNat (⟨t266, t267, (⟨t268, t269, t270, t271⟩ : S40), t272, t273, t274⟩ : S42)) (wrap64 (x4_1 + 1))) else (none)) = some r := H
              have A8 := Aside0.mk A80
              clear A80
              by_cases c9 : x4_1 < (x3_1.length : Int)
              · rw [if_pos c9] at H
                have c9b0 : decide (x4_1 < (x3_1.length : Int)) = true := decide_eq_true c9
                clear c9
                obtain ⟨y275, hy275⟩ : ∃ y_ : List (S42), y_ = (x3_1.set (x4_1 : Int).toNat (⟨t266, t267, (⟨t268, t269, t270, t271⟩ : S40), t272, t273, t274⟩ : S42)) := ⟨_, rfl⟩
                replace H : (laws_toResultS.l0 k1 l0 y275 (wrap64 (x4_1 + 1))) = some r := by first | (rw [hy275]; with_reducible exact H) | (have H2_ := (Option.bind_some _ _).symm.trans H; rw [hy275]; with_reducible exact H2_) | (have H2_ := (Option.bind_some _ _).symm.trans H; with_reducible exact H2_) | with_reducible exact H | (rw [hy275]; exact H) | exact H
                have Ny275 := Aside0.mk hy275
                clear hy275
                have H' := Aside0.mk H
                clear H
                have p265 : 0 ≤ (x4_1 : Int) := of_decide_eq_true (by first | (with_reducible assumption) | assumption)
                have q265 : x4_1 < (l0.length : Int) := of_decide_eq_true (by first | (with_reducible assumption) | assumption)
                obtain ⟨ad265, e265, hx265_0, hx265_1, hx265_2, hx265_3, hx265_4, hx265_5, hx265_6, hx265_7, hx265_8⟩ := at_T135 HR0.out x4_1 p265 q265
                cases e265
                replace hx265_0 := hcx HB hx265_0
                replace hx265_1 := hcx HB hx265_1
                replace hx265_2 := hcx HB hx265_2
                replace hx265_3 := hcx HB hx265_3
                replace hx265_4 := hcx HB hx265_4
                replace hx265_5 := hcx HB hx265_5
                replace hx265_6 := hcx HB hx265_6
                replace hx265_7 := hcx HB hx265_7
                replace hx265_8 := hcx HB hx265_8
                replace p265 := eq_true p265
                replace q265 := eq_true q265
                go_wp2_with (first | ((with_reducible refine gate_callee (f := 119) rfl ?_); refine gsl (some 20) rfl Try.func119 #[.agg #[.int .i64 ((rd_T135 l0 x4_1).f0), .int .i64 ((rd_T135 l0 x4_1).f1), .int .i64 ((rd_T135 l0 x4_1).f2.f0), .string ((rd_T135 l0 x4_1).f2.f1), .int .i64 ((rd_T135 l0 x4_1).f2.f2), .int .i64 ((rd_T135 l0 x4_1).f2.f3), .int .i64 ((rd_T135 l0 x4_1).f3), .int .i64 ((rd_T135 l0 x4_1).f4), .int .i64 ((rd_T135 l0 x4_1).f5)]] rfl ?_; (with_reducible refine (laws_toResult.calls ((rd_T135 l0 x4_1).f0) ((rd_T135 l0 x4_1).f1) ((rd_T135 l0 x4_1).f2.f0) ((rd_T135 l0 x4_1).f2.f1) ((rd_T135 l0 x4_1).f2.f2) ((rd_T135 l0 x4_1).f2.f3) ((rd_T135 l0 x4_1).f3) ((rd_T135 l0 x4_1).f4) ((rd_T135 l0 x4_1).f5) t266 t267 t268 t269 t270 t271 t272 t273 t274 _ A8.out).mono ?_); rintro e w11 ⟨rfl, hb⟩; refine ⟨_, rfl, ?_⟩; have n0_ := Aside0.mk (Kd.R_below (kr HO_3.out) hb); have n1_ := an0 HB hb; clear HO_3; clear HB; have HO_3 := n0_; have HB := n1_; clear n0_ n1_; (try clear hb); (try clear hb2); (try clear hk); (try clear hi); have p10 : 0 ≤ (x4_1 : Int) := of_decide_eq_true (by first | (with_reducible assumption) | assumption); have q10 : (x4_1 : Int) < ((x3_1.length : Int) : Int) := of_decide_eq_true (by first | (with_reducible assumption) | assumption); obtain ⟨go10, co10, eo10, gb10, gl10, cl10, HG10⟩ := Kd.R_form HO_3.out (by omega); (first | cases eo10 | (injection eo10 with ea_ en_ ec_; (first | subst ea_ | (injection ea_ with ea_; subst ea_)); subst ec_; clear en_)); have GB10 := Aside0.mk gb10; have GG10 := Aside0.mk HG10; clear gb10 gl10 HG10; obtain ⟨ce10, hcl10, hM10, hcc10, hfr10⟩ := Kd.R_elem HO_3.out z42 (x4_1 : Int) p10 q10; obtain rfl := k42_openM hM10; have hx10_0 : w11.cell? ⟨go10, (x4_1 : Int).toNat * 9, none⟩ = some (.int .i64 ((rd_T42 x3_1 x4_1).f0)) := hcc10 0 _ rfl; have hx10_1 : w11.cell? ⟨go10, (x4_1 : Int).toNat * 9 + 1, none⟩ = some (.int .i64 ((rd_T42 x3_1 x4_1).f1)) := hcc10 1 _ rfl; have hx10_2 : w11.cell? ⟨go10, (x4_1 : Int).toNat * 9 + 2, none⟩ = some (.int .i64 ((rd_T42 x3_1 x4_1).f2.f0)) := hcc10 2 _ rfl; have hx10_3 : w11.cell? ⟨go10, (x4_1 : Int).toNat * 9 + 3, none⟩ = some (.string ((rd_T42 x3_1 x4_1).f2.f1)) := hcc10 3 _ rfl; have hx10_4 : w11.cell? ⟨go10, (x4_1 : Int).toNat * 9 + 4, none⟩ = some (.int .i64 ((rd_T42 x3_1 x4_1).f2.f2)) := hcc10 4 _ rfl; have hx10_5 : w11.cell? ⟨go10, (x4_1 : Int).toNat * 9 + 5, none⟩ = some (.int .i64 ((rd_T42 x3_1 x4_1).f2.f3)) := hcc10 5 _ rfl; have hx10_6 : w11.cell? ⟨go10, (x4_1 : Int).toNat * 9 + 6, none⟩ = some (.int .i64 ((rd_T42 x3_1 x4_1).f3)) := hcc10 6 _ rfl; have hx10_7 : w11.cell? ⟨go10, (x4_1 : Int).toNat * 9 + 7, none⟩ = some (.int .i64 ((rd_T42 x3_1 x4_1).f4)) := hcc10 7 _ rfl; have hx10_8 : w11.cell? ⟨go10, (x4_1 : Int).toNat * 9 + 8, none⟩ = some (.int .i64 ((rd_T42 x3_1 x4_1).f5)) := hcc10 8 _ rfl; have hf10_0 : w11.frozen? ⟨go10, (x4_1 : Int).toNat * 9, none⟩ = false := hfr10 0; have hf10_1 : w11.frozen? ⟨go10, (x4_1 : Int).toNat * 9 + 1, none⟩ = false := hfr10 1; have hf10_2 : w11.frozen? ⟨go10, (x4_1 : Int).toNat * 9 + 2, none⟩ = false := hfr10 2; have hf10_3 : w11.frozen? ⟨go10, (x4_1 : Int).toNat * 9 + 3, none⟩ = false := hfr10 3; have hf10_4 : w11.frozen? ⟨go10, (x4_1 : Int).toNat * 9 + 4, none⟩ = false := hfr10 4; have hf10_5 : w11.frozen? ⟨go10, (x4_1 : Int).toNat * 9 + 5, none⟩ = false := hfr10 5; have hf10_6 : w11.frozen? ⟨go10, (x4_1 : Int).toNat * 9 + 6, none⟩ = false := hfr10 6; have hf10_7 : w11.frozen? ⟨go10, (x4_1 : Int).toNat * 9 + 7, none⟩ = false := hfr10 7; have hf10_8 : w11.frozen? ⟨go10, (x4_1 : Int).toNat * 9 + 8, none⟩ = false := hfr10 8; clear hcl10 hcc10 hfr10 hM10; replace p10 := eq_true p10; replace q10 := eq_true q10; have HX12 := Aside0.mk (show Kd.R k42 42 w11 w.heap.size (fun _ => True) (.slice (some ⟨go10, 0, none⟩) x3_1.length co10) x3_1 from (kr HO_3.out)); obtain ⟨ce12, hcl12, hM12, hcc12, hfr12⟩ := Kd.R_elem HX12.out z42 (x4_1 : Int) (of_decide_eq_true (by first | (with_reducible assumption) | assumption)) (by have h_ : (x4_1 : Int) < ((x3_1.length : Int) : Int) := of_decide_eq_true (by first | (with_reducible assumption) | assumption); first | exact h_ | (have e_ := (Kd.R_reads' HO_3.out).1; omega) | simpa using h_); obtain rfl := k42_openM hM12; have HP12 := Kd.R_seg HX12.out (x4_1 : Int) (of_decide_eq_true (by first | (with_reducible assumption) | assumption)) (by have h_ : (x4_1 : Int) < ((x3_1.length : Int) : Int) := of_decide_eq_true (by first | (with_reducible assumption) | assumption); first | exact h_ | (have e_ := (Kd.R_reads' HO_3.out).1; omega) | simpa using h_) (seg := [.int .i64 t266, .int .i64 t267, .int .i64 t268, .string t269, .int .i64 t270, .int .i64 t271, .int .i64 t272, .int .i64 t273, .int .i64 t274]) (j := 0) hcl12 hcc12 (show 9 ≤ 9 from by decide) (x' := (⟨t266, t267, (⟨t268, t269, t270, t271⟩ : S40), t272, t273, t274⟩ : S42)) (k42_mkM _ _ _ (⟨t266, t267, (⟨t268, t269, t270, t271⟩ : S40), t272, t273, t274⟩ : S42) ) (fun _ hk => hk); have hx12_0 := hcc12 0 _ rfl; (try simp only [show (k42).sz = 9 from rfl, Nat.mul_one, Nat.add_zero] at hx12_0); have hf12_0 := hfr12 0; (try simp only [show (k42).sz = 9 from rfl, Nat.mul_one, Nat.add_zero] at hf12_0); have hx12_1 := hcc12 1 _ rfl; (try simp only [show (k42).sz = 9 from rfl, Nat.mul_one, Nat.add_zero] at hx12_1); have hf12_1 := hfr12 1; (try simp only [show (k42).sz = 9 from rfl, Nat.mul_one, Nat.add_zero] at hf12_1); have hx12_2 := hcc12 2 _ rfl; (try simp only [show (k42).sz = 9 from rfl, Nat.mul_one, Nat.add_zero] at hx12_2); have hf12_2 := hfr12 2; (try simp only [show (k42).sz = 9 from rfl, Nat.mul_one, Nat.add_zero] at hf12_2); have hx12_3 := hcc12 3 _ rfl; (try simp only [show (k42).sz = 9 from rfl, Nat.mul_one, Nat.add_zero] at hx12_3); have hf12_3 := hfr12 3; (try simp only [show (k42).sz = 9 from rfl, Nat.mul_one, Nat.add_zero] at hf12_3); have hx12_4 := hcc12 4 _ rfl; (try simp only [show (k42).sz = 9 from rfl, Nat.mul_one, Nat.add_zero] at hx12_4); have hf12_4 := hfr12 4; (try simp only [show (k42).sz = 9 from rfl, Nat.mul_one, Nat.add_zero] at hf12_4); have hx12_5 := hcc12 5 _ rfl; (try simp only [show (k42).sz = 9 from rfl, Nat.mul_one, Nat.add_zero] at hx12_5); have hf12_5 := hfr12 5; (try simp only [show (k42).sz = 9 from rfl, Nat.mul_one, Nat.add_zero] at hf12_5); have hx12_6 := hcc12 6 _ rfl; (try simp only [show (k42).sz = 9 from rfl, Nat.mul_one, Nat.add_zero] at hx12_6); have hf12_6 := hfr12 6; (try simp only [show (k42).sz = 9 from rfl, Nat.mul_one, Nat.add_zero] at hf12_6); have hx12_7 := hcc12 7 _ rfl; (try simp only [show (k42).sz = 9 from rfl, Nat.mul_one, Nat.add_zero] at hx12_7); have hf12_7 := hfr12 7; (try simp only [show (k42).sz = 9 from rfl, Nat.mul_one, Nat.add_zero] at hf12_7); have hx12_8 := hcc12 8 _ rfl; (try simp only [show (k42).sz = 9 from rfl, Nat.mul_one, Nat.add_zero] at hx12_8); have hf12_8 := hfr12 8; (try simp only [show (k42).sz = 9 from rfl, Nat.mul_one, Nat.add_zero] at hf12_8); clear hcl12 hcc12 hfr12 hM12) | ((with_reducible refine gate_store (t := 42) (p := 21) rfl ?_); refine store_event (t := 42) (p := 21) (v := ?vo_w13) (w1 := (((((((((w11.setCell ⟨go10, (x4_1 : Int).toNat * 9, none⟩ (.int .i64 t266)).setCell ⟨go10, (x4_1 : Int).toNat * 9 + 1, none⟩ (.int .i64 t267)).setCell ⟨go10, (x4_1 : Int).toNat * 9 + 2, none⟩ (.int .i64 t268)).setCell ⟨go10, (x4_1 : Int).toNat * 9 + 3, none⟩ (.string t269)).setCell ⟨go10, (x4_1 : Int).toNat * 9 + 4, none⟩ (.int .i64 t270)).setCell ⟨go10, (x4_1 : Int).toNat * 9 + 5, none⟩ (.int .i64 t271)).setCell ⟨go10, (x4_1 : Int).toNat * 9 + 6, none⟩ (.int .i64 t272)).setCell ⟨go10, (x4_1 : Int).toNat * 9 + 7, none⟩ (.int .i64 t273)).setCell ⟨go10, (x4_1 : Int).toNat * 9 + 8, none⟩ (.int .i64 t274))) ?hg ?ho ?hn ?hr ?_; (case ho => rfl); (case hg => rfl); (case hn => rfl); (case hr => first | (go_simp; done) | (go_simp; rfl)); intro w13 hw; have hg : w11.grownBy w13 (some go10) := (by rw [hw]; exact HP12.2); have hp_ : Kd.R k42 42 w13 w.heap.size (fun _ => True) (.slice (some ⟨go10, 0, none⟩) x3_1.length co10) y275 := (by rw [hw, Ny275.out]; exact HP12.1); clear HP12; have n0_ := Aside0.mk (hp_); have n1_ := Aside0.mk ((by rw [hw]; exact below_set (below_set (below_set (below_set (below_set (below_set (below_set (below_set (below_set (HB.out) GB10.out) GB10.out) GB10.out) GB10.out) GB10.out) GB10.out) GB10.out) GB10.out) GB10.out : Below w.heap.size w w13)); clear HO_3; clear HB; have HO_3 := n0_; have HB := n1_; clear n0_ n1_; clear hg hw hp_))
                go_roundg k1
                case measure => have := HK1.out; omega
                case rel => exact ⟨(y275), (wrap64 (x4_1 + 1)), (by first | rfl | (simp; done) | (simp [*]; done) | (simp [bne_nil_, beq_nil_]; done)), H', ⟨by have := HK1.out; omega⟩, ⟨by (with_reducible repeat (first | apply Kd.R_alloc | apply Kd.R_drewN | apply Kd.R_drew)); exact HO_3.out⟩, ⟨bp HB.out⟩⟩
              · rw [if_neg c9] at H
                exact absurd H (by simp)
            · rw [if_neg c7] at H
              exact absurd H (by simp)
          · rw [if_neg c6] at H
            have c6b0 : decide (x4_1 < (l0.length : Int)) = false := decide_eq_false c6
            clear c6
            obtain rfl := Option.some.inj H
            go_wp2
            go_ret
            exact ⟨_, fe, by (with_reducible repeat (first | apply Kd.R_alloc | apply Kd.R_drewN | apply Kd.R_drew)); exact HO_3.out, bp HB.out⟩
    · rw [if_neg c3] at H
      exact absurd H (by simp)
  · rw [if_neg c2] at H
    exact absurd H (by simp)

/-! ### laws_toIntS: function 67 -/
def laws_toIntS.l0 : Nat → List Int → List Int → Int → Option (List Int)
  | 0, _, _, _ => none
  | k + 1, x0, x3, x4 => if x4 < (x0.length : Int) then (if 0 ≤ x4 then (if x4 < (x3.length : Int) then (laws_toIntS.l0 k x0 (x3.set (x4 : Int).toNat (rd x0 x4)) (wrap64 (x4 + 1))) else (none)) else (none)) else (some x3)
def laws_toIntS.f (k : Nat) (l0 : List Int) : Option (List Int) := if 0 ≤ (l0.length : Int) then (if ((l0.length : Int) : Int).toNat ≤ 35184372088832 then (laws_toIntS.l0 k l0 (List.replicate ((l0.length : Int) : Int).toNat 0) 0) else (none)) else (none)
theorem laws_toIntS.mono_l : ∀ k, (∀ y0 y1 y2, LeO (laws_toIntS.l0 k y0 y1 y2) (laws_toIntS.l0 (k + 1) y0 y1 y2))
  | 0 => fun _ _ _ r h => by simp [laws_toIntS.l0] at h
  | k + 1 => by
    have ih0 := laws_toIntS.mono_l k
    · intro y0 y1 y2
      unfold laws_toIntS.l0
      repeat' first
      | (with_reducible exact ih0 _ _ _)
      | (with_reducible exact LeO.refl _)
      | (with_reducible exact LeO.none _)
      | (with_reducible refine LeO.ite ?_ ?_)
      | (with_reducible refine LeO.bind ?_ (fun _ => ?_))
      | exact ih0 _ _ _
      | exact LeO.none _
      | refine LeO.ite ?_ ?_
      | refine LeO.bind ?_ (fun _ => ?_)
theorem laws_toIntS.mono : ∀ a0 k, LeO (laws_toIntS.f k a0) (laws_toIntS.f (k + 1) a0) := by
  intro a0 k
  have ih0 := laws_toIntS.mono_l k
  unfold laws_toIntS.f
  repeat' first
      | (with_reducible exact ih0 _ _ _)
      | (with_reducible exact LeO.refl _)
      | (with_reducible exact LeO.none _)
      | (with_reducible refine LeO.ite ?_ ?_)
      | (with_reducible refine LeO.bind ?_ (fun _ => ?_))
      | exact ih0 _ _ _
      | exact LeO.none _
      | refine LeO.ite ?_ ?_
      | refine LeO.bind ?_ (fun _ => ?_)
set_option maxHeartbeats 8000000 in
set_option maxRecDepth 100000 in
theorem laws_toIntS.calls (k : Nat) (A0 : Option Addr) (c0 : Nat) (l0 : List Int) (r : List Int) (w : World) (hr0 : Kd.C (Kd.int .i64) w A0 l0.length l0) (hc0 : l0.length ≤ c0) (h : laws_toIntS.f k l0 = some r) :
    Calls Try.prog 67 #[.slice A0 l0.length c0] w fun e w' => ∃ v0_ : Value, e = .returned (v0_) ∧ Kd.R (Kd.int .i64) 3 w' w.heap.size (fun _ => True) v0_ r ∧ Below w.heap.size w w' := by
  have HR0 := Aside0.mk hr0
  have HC0 := Aside0.mk hc0
  clear hr0 hc0
  have HB := Aside0.mk (Below.refl w.heap.size w)
  have H : (if 0 ≤ (l0.length : Int) then (if ((l0.length : Int) : Int).toNat ≤ 35184372088832 then (laws_toIntS.l0 k l0 (List.replicate ((l0.length : Int) : Int).toNat 0) 0) else (none)) else (none)) = some r := h
  clear h
  by_cases c2 : 0 ≤ (l0.length : Int)
  · rw [if_pos c2] at H
    have c2b0 := eq_true c2
    have c2b1 : decide (0 ≤ (l0.length : Int)) = true := decide_eq_true c2
    clear c2
    by_cases c3 : ((l0.length : Int) : Int).toNat ≤ 35184372088832
    · rw [if_pos c3] at H
      have c3b0 := eq_true c3
      have c3b1 : decide (((l0.length : Int) : Int).toNat ≤ 35184372088832) = true := decide_eq_true c3
      clear c3
      obtain ⟨y276, hy276⟩ : ∃ y_ : List Int, y_ = (List.replicate ((l0.length : Int) : Int).toNat 0) := ⟨_, rfl⟩
      replace H : (laws_toIntS.l0 k l0 y276 0) = some r := by first | (rw [hy276]; with_reducible exact H) | (have H2_ := (Option.bind_some _ _).symm.trans H; rw [hy276]; with_reducible exact H2_) | (have H2_ := (Option.bind_some _ _).symm.trans H; with_reducible exact H2_) | with_reducible exact H | (rw [hy276]; exact H) | exact H
      have Ny276 := Aside0.mk hy276
      clear hy276
      have H' := Aside0.mk H
      clear H
      go_enter Try.func67, Try.ntmps67
      go_wp2_with (first | ((with_reducible refine gate_dst (N := 7) rfl ?_); refine Kd.R_make (Kd.int .i64) _ 3 rfl (N := 7) rfl 33 _ _ rfl (l0.length : Int) rfl rfl Try.underlying33 (.int .i64 0) 8 info3 rfl (by decide) (by omega) 0 (ok := fun _ => True) (okp := fun _ => True) rfl (fun _ hk => hk) trivial (of_decide_eq_true (by first | (with_reducible assumption) | assumption)) (Nat.le_trans (Nat.mul_le_mul_right _ (of_decide_eq_true (by first | (with_reducible assumption) | assumption) : (l0.length : Int).toNat ≤ 35184372088832)) (by omega)) (Below.refl _ _) (Nat.le_refl _) ?_; intro v277 w4 ho5 hb hg_ hnew_; clear hg_ hnew_; (first | rw [← Ny276.out] at ho5 | (simp only [Int.reduceToNat] at ho5; rw [← Ny276.out] at ho5)); have n0_ := Aside0.mk (Kd.R_lower ho5 (below_size (bp HB.out))); have n1_ := an0 HB hb; clear HB; have HO278 := n0_; have HB := n1_; clear n0_ n1_; clear hb ho5))
      go_loopg [4] k (fun kq v4 w' => ∃ (x3_1 : List Int) (x4_1 : Int), v4 = .int .i64 x4_1 ∧ Aside0 (laws_toIntS.l0 kq l0 x3_1 x4_1 = some r) ∧ Aside0 (kq ≤ k) ∧ Aside0 (Kd.R (Kd.int .i64) 3 w' w.heap.size (fun _ => True) v277 x3_1) ∧ Aside0 (Below w.heap.size w w'))
      case atStart => exact ⟨(y276), (0), (by first | rfl | (simp; done) | (simp [*]; done) | (simp [bne_nil_, beq_nil_]; done)), H', ⟨Nat.le_refl _⟩, ⟨by (with_reducible repeat (first | apply Kd.R_alloc | apply Kd.R_drewN | apply Kd.R_drew)); exact HO278.out⟩, ⟨bp HB.out⟩⟩
      case round =>
        clear H'
        try clear c2
        try clear c2b0
        try clear c2b1
        try clear p2
        try clear c3
        try clear c3b0
        try clear c3b1
        obtain ⟨x3_1, x4_1, rfl, HA, HK1, HO_3, HB⟩ := hrel
        cases gk with
        | zero => exact absurd HA.out (by simp [laws_toIntS.l0])
        | succ k1 =>
          have H := HA.out
          clear HA
          simp only [laws_toIntS.l0] at H
          by_cases c6 : x4_1 < (l0.length : Int)
          · rw [if_pos c6] at H
            have c6b0 : decide (x4_1 < (l0.length : Int)) = true := decide_eq_true c6
            clear c6
            by_cases c7 : 0 ≤ x4_1
            · rw [if_pos c7] at H
              have c7b0 : decide (0 ≤ x4_1) = true := decide_eq_true c7
              clear c7
              by_cases c8 : x4_1 < (x3_1.length : Int)
              · rw [if_pos c8] at H
                have c8b0 : decide (x4_1 < (x3_1.length : Int)) = true := decide_eq_true c8
                clear c8
                obtain ⟨y280, hy280⟩ : ∃ y_ : List Int, y_ = (x3_1.set (x4_1 : Int).toNat (rd l0 x4_1)) := ⟨_, rfl⟩
                replace H : (laws_toIntS.l0 k1 l0 y280 (wrap64 (x4_1 + 1))) = some r := by first | (rw [hy280]; with_reducible exact H) | (have H2_ := (Option.bind_some _ _).symm.trans H; rw [hy280]; with_reducible exact H2_) | (have H2_ := (Option.bind_some _ _).symm.trans H; with_reducible exact H2_) | with_reducible exact H | (rw [hy280]; exact H) | exact H
                have Ny280 := Aside0.mk hy280
                clear hy280
                have H' := Aside0.mk H
                clear H
                have p279 : 0 ≤ (x4_1 : Int) := of_decide_eq_true (by first | (with_reducible assumption) | assumption)
                have q279 : x4_1 < (l0.length : Int) := of_decide_eq_true (by first | (with_reducible assumption) | assumption)
                obtain ⟨ad279, e279, hx279_0⟩ := Kd.at_int HR0.out x4_1 p279 q279
                cases e279
                replace hx279_0 := hcx HB hx279_0
                replace p279 := eq_true p279
                replace q279 := eq_true q279
                have p9 : 0 ≤ (x4_1 : Int) := of_decide_eq_true (by first | (with_reducible assumption) | assumption)
                have q9 : (x4_1 : Int) < ((x3_1.length : Int) : Int) := of_decide_eq_true (by first | (with_reducible assumption) | assumption)
                obtain ⟨go9, co9, eo9, gb9, gl9, cl9, HG9⟩ := Kd.R_form HO_3.out (by omega)
                (first | cases eo9 | (injection eo9 with ea_ en_ ec_; (first | subst ea_ | (injection ea_ with ea_; subst ea_)); subst ec_; clear en_))
                have GB9 := Aside0.mk gb9
                have GG9 := Aside0.mk HG9
                clear gb9 gl9 HG9
                obtain ⟨hx9_0, hf9_0⟩ := Kd.R_celln 0 HO_3.out (x4_1 : Int) p9 q9
                replace p9 := eq_true p9
                replace q9 := eq_true q9
                have HP10 := Kd.R_putg HO_3.out (x4_1 : Int) (rd l0 x4_1)
                go_wp2_with (first | ((with_reducible refine gate_store (t := 3) (p := 20) rfl ?_); refine store_event (t := 3) (p := 20) (v := ?vo_w11) (w1 := (wr.setCell ⟨go9, (x4_1 : Int).toNat, none⟩ (.int .i64 (rd l0 x4_1)))) ?hg ?ho ?hn ?hr ?_; (case ho => rfl); (case hg => rfl); (case hn => rfl); (case hr => first | (go_simp; done) | (go_simp; rfl)); intro w11 hw; have hg : wr.grownBy w11 (some go9) := (by rw [hw]; exact HP10.2); have hp_ : Kd.R (Kd.int .i64) 3 w11 w.heap.size (fun _ => True) (.slice (some ⟨go9, 0, none⟩) x3_1.length co9) y280 := (by rw [hw, Ny280.out]; exact HP10.1); clear HP10; have n0_ := Aside0.mk (hp_); have n1_ := Aside0.mk ((by rw [hw]; exact below_set (HB.out) GB9.out : Below w.heap.size w w11)); clear HO_3; clear HB; have HO_3 := n0_; have HB := n1_; clear n0_ n1_; clear hg hw hp_))
                go_roundg k1
                case measure => have := HK1.out; omega
                case rel => exact ⟨(y280), (wrap64 (x4_1 + 1)), (by first | rfl | (simp; done) | (simp [*]; done) | (simp [bne_nil_, beq_nil_]; done)), H', ⟨by have := HK1.out; omega⟩, ⟨by (with_reducible repeat (first | apply Kd.R_alloc | apply Kd.R_drewN | apply Kd.R_drew)); exact HO_3.out⟩, ⟨bp HB.out⟩⟩
              · rw [if_neg c8] at H
                exact absurd H (by simp)
            · rw [if_neg c7] at H
              exact absurd H (by simp)
          · rw [if_neg c6] at H
            have c6b0 : decide (x4_1 < (l0.length : Int)) = false := decide_eq_false c6
            clear c6
            obtain rfl := Option.some.inj H
            go_wp2
            go_ret
            exact ⟨_, fe, by (with_reducible repeat (first | apply Kd.R_alloc | apply Kd.R_drewN | apply Kd.R_drew)); exact HO_3.out, bp HB.out⟩
    · rw [if_neg c3] at H
      exact absurd H (by simp)
  · rw [if_neg c2] at H
    exact absurd H (by simp)

end Go.Proofs.Ytfeeifefmenlmaa.PFnExactRepliesRight
