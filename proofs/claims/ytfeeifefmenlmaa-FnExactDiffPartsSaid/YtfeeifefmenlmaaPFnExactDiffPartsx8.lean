-- Written by a program of this session, in the manner of the kit's print (wip/pp.py): functions and their contracts.
import Derived.Test.YtfeeifefmenlmaaPFnExactDiffPartsx0
import Derived.Test.YtfeeifefmenlmaaPFnExactDiffPartsx7
namespace Go.Proofs.Ytfeeifefmenlmaa.PFnExactDiffParts
open Go.RowKit Go.Proofs.YtfeeifefmenlmaaW.PrintWords Go.Proofs.YtfeeifefmenlmaaW.PrintLast Go.Proofs.YtfeeifefmenlmaaW.PrintMore
attribute [local go_sem] binOp_leq_str binOp_gtr_str binOp_geq_str max2_int min2_int max_two min_two max_three min_three max_four min_four   -- for this text's walks alone
set_option linter.unusedVariables false
set_option linter.unusedSimpArgs false

/-! ### spec_DiffParts: function 48 -/
mutual
def spec_DiffParts.l0 : Nat → List Int → List Int → List Int → Int → Option (List Int)
  | 0, _, _, _, _ => none
  | k + 1, x7, x8, x9, x10 => if x10 < (x8.length : Int) then (spec_DiffParts.j1 k x7 x8 x9 x10 (decide (x10 < (x9.length : Int)))) else (spec_DiffParts.j1 k x7 x8 x9 x10 false)
def spec_DiffParts.j1 : Nat → List Int → List Int → List Int → Int → Bool → Option (List Int)
  | 0, _, _, _, _, _ => none
  | k + 1, x7, x8, x9, x10, x27 => if x27 = true then (if 0 ≤ x10 then (if x10 < (x8.length : Int) then (if x10 < (x9.length : Int) then (if (rd x8 x10) = (rd x9 x10) then (spec_DiffParts.l0 k x7 x8 x9 (wrap64 (x10 + 1))) else (if x7.length < 17592186044416 then (spec_DiffParts.l0 k (x7 ++ [x10]) x8 x9 (wrap64 (x10 + 1))) else (none))) else (none)) else (none)) else (none)) else (some x7)
end
def spec_DiffParts.f (k : Nat) (l0 : List (S29)) (l1 : List (S29)) (l2 : List (S83)) : Option (List Int) := (spec_PartDigests.f k l0 l2).bind fun t223 => ((spec_PartDigests.f k l1 l2).bind fun t226 => (spec_DiffParts.l0 k (([] : List Int)) t223 t226 0))
theorem spec_DiffParts.mono_l : ∀ k, (∀ y0 y1 y2 y3, LeO (spec_DiffParts.l0 k y0 y1 y2 y3) (spec_DiffParts.l0 (k + 1) y0 y1 y2 y3)) ∧ (∀ y0 y1 y2 y3 y4, LeO (spec_DiffParts.j1 k y0 y1 y2 y3 y4) (spec_DiffParts.j1 (k + 1) y0 y1 y2 y3 y4))
  | 0 => ⟨fun _ _ _ _ r h => by simp [spec_DiffParts.l0] at h, fun _ _ _ _ _ r h => by simp [spec_DiffParts.j1] at h⟩
  | k + 1 => by
    obtain ⟨ih0, ih1⟩ := spec_DiffParts.mono_l k
    refine ⟨?_, ?_⟩
    · intro y0 y1 y2 y3
      unfold spec_DiffParts.l0
      repeat' first
      | (with_reducible exact ih0 _ _ _ _)
      | (with_reducible exact ih1 _ _ _ _ _)
      | (with_reducible exact spec_PartDigests.mono _ _ _)
      | (with_reducible exact LeO.refl _)
      | (with_reducible exact LeO.none _)
      | (with_reducible refine LeO.ite ?_ ?_)
      | (with_reducible refine LeO.bind ?_ (fun _ => ?_))
      | exact ih0 _ _ _ _
      | exact ih1 _ _ _ _ _
      | exact spec_PartDigests.mono _ _ _
      | exact LeO.none _
      | refine LeO.ite ?_ ?_
      | refine LeO.bind ?_ (fun _ => ?_)
    · intro y0 y1 y2 y3 y4
      unfold spec_DiffParts.j1
      repeat' first
      | (with_reducible exact ih0 _ _ _ _)
      | (with_reducible exact ih1 _ _ _ _ _)
      | (with_reducible exact spec_PartDigests.mono _ _ _)
      | (with_reducible exact LeO.refl _)
      | (with_reducible exact LeO.none _)
      | (with_reducible refine LeO.ite ?_ ?_)
      | (with_reducible refine LeO.bind ?_ (fun _ => ?_))
      | exact ih0 _ _ _ _
      | exact ih1 _ _ _ _ _
      | exact spec_PartDigests.mono _ _ _
      | exact LeO.none _
      | refine LeO.ite ?_ ?_
      | refine LeO.bind ?_ (fun _ => ?_)
theorem spec_DiffParts.mono : ∀ a0 a1 a2 k, LeO (spec_DiffParts.f k a0 a1 a2) (spec_DiffParts.f (k + 1) a0 a1 a2) := by
  intro a0 a1 a2 k
  obtain ⟨ih0, ih1⟩ := spec_DiffParts.mono_l k
  unfold spec_DiffParts.f
  repeat' first
      | (with_reducible exact ih0 _ _ _ _)
      | (with_reducible exact ih1 _ _ _ _ _)
      | (with_reducible exact spec_PartDigests.mono _ _ _)
      | (with_reducible exact LeO.refl _)
      | (with_reducible exact LeO.none _)
      | (with_reducible refine LeO.ite ?_ ?_)
      | (with_reducible refine LeO.bind ?_ (fun _ => ?_))
      | exact ih0 _ _ _ _
      | exact ih1 _ _ _ _ _
      | exact spec_PartDigests.mono _ _ _
      | exact LeO.none _
      | refine LeO.ite ?_ ?_
      | refine LeO.bind ?_ (fun _ => ?_)
set_option maxHeartbeats 8000000 in
set_option maxRecDepth 100000 in
theorem spec_DiffParts.calls (k : Nat) (A0 : Option Addr) (c0 : Nat) (l0 : List (S29)) (A1 : Option Addr) (c1 : Nat) (l1 : List (S29)) (A2 : Option Addr) (c2 : Nat) (l2 : List (S83)) (r : List Int) (w : World) (hr0 : Kd.C k29 w A0 l0.length l0) (hc0 : l0.length ≤ c0) (hr1 : Kd.C k29 w A1 l1.length l1) (hc1 : l1.length ≤ c1) (hr2 : Kd.C k83 w A2 l2.length l2) (hc2 : l2.length ≤ c2) (h : spec_DiffParts.f k l0 l1 l2 = some r) :
    Calls Try.prog 48 #[.slice A0 l0.length c0, .slice A1 l1.length c1, .slice A2 l2.length c2] w fun e w' => ∃ v0_ : Value, e = .returned (v0_) ∧ Kd.R (Kd.int .i64) 3 w' w.heap.size (fun _ => True) v0_ r ∧ Below w.heap.size w w' := by
  have HR0 := Aside0.mk hr0
  have HC0 := Aside0.mk hc0
  clear hr0 hc0
  have HR1 := Aside0.mk hr1
  have HC1 := Aside0.mk hc1
  clear hr1 hc1
  have HR2 := Aside0.mk hr2
  have HC2 := Aside0.mk hc2
  clear hr2 hc2
  have HB := Aside0.mk (Below.refl w.heap.size w)
  have H : ((spec_PartDigests.f k l0 l2).bind fun t223 => ((spec_PartDigests.f k l1 l2).bind fun t226 => (spec_DiffParts.l0 k (([] : List Int)) t223 t226 0))) = some r := h
  clear h
  obtain ⟨y220, hy220⟩ : ∃ y_ : List Int, y_ = (([] : List Int)) := ⟨_, rfl⟩
  replace H : ((spec_PartDigests.f k l0 l2).bind fun t223 => ((spec_PartDigests.f k l1 l2).bind fun t226 => (spec_DiffParts.l0 k y220 t223 t226 0))) = some r := by first | (rw [hy220]; with_reducible exact H) | (have H2_ := (Option.bind_some _ _).symm.trans H; rw [hy220]; with_reducible exact H2_) | (have H2_ := (Option.bind_some _ _).symm.trans H; with_reducible exact H2_) | with_reducible exact H | (rw [hy220]; exact H) | exact H
  have Ny220 := Aside0.mk hy220
  clear hy220
  replace H := Option.bind_eq_some_iff.mp H
  obtain ⟨t223, A40, H⟩ := H
  replace H : ((spec_PartDigests.f k l1 l2).bind fun t226 => (spec_DiffParts.l0 k y220 t223 t226 0)) = some r := H
  have A4 := Aside0.mk A40
  clear A40
  replace H := Option.bind_eq_some_iff.mp H
  obtain ⟨t226, A50, H⟩ := H
  replace H : (spec_DiffParts.l0 k y220 t223 t226 0) = some r := H
  have A5 := Aside0.mk A50
  clear A50
  have H' := Aside0.mk H
  clear H
  go_enter Try.func48, Try.ntmps48
  go_wp2_with (first | ((with_reducible refine gate_dst (N := 11) rfl ?_); (try (refine gate_guard (by rfl) ?_; dsimp only)); refine Kd.R_lit (Kd.int .i64) _ 3 ?hg (N := 11) ?hd (xs := ([] : List Int)) (inner := []) (ok := fun _ => True) (okp := fun _ => True) ?hr ?hp (fun _ hk => hk) trivial (Below.refl _ _) (Nat.le_refl _) (by simp) ?_; (case hd => rfl); (case hg => rfl); (case hr => first | (go_simp; done) | (go_simp; rfl)); (case hp => exact (Reps.none _ _)); intro v221 w6 ho7 hb hg_ hnew_; clear hg_ hnew_; (first | rw [← Ny220.out] at ho7 | (simp only [Int.reduceToNat] at ho7; rw [← Ny220.out] at ho7)); have n0_ := Aside0.mk (Kd.R_lower ho7 (below_size (bp HB.out))); have n1_ := an0 HB hb; clear HB; have HO222 := n0_; have HB := n1_; clear n0_ n1_; clear hb ho7) | (go_at_call 39; (with_reducible refine (spec_PartDigests.calls k _ _ l0 _ _ l2 t223 _ ?side1 ?side2 ?side3 ?side4 A4.out).mono ?_); (case side1 => exact cc (Kd.C_below HR0.out HB.out)); (case side2 => exact HC0.out); (case side3 => exact cc (Kd.C_below HR2.out HB.out)); (case side4 => exact HC2.out); rintro e w8 ⟨v224, rfl, ho0, hb⟩; have n0_ := Aside0.mk (Kd.R_elder' (kr HO222.out) (Kd.R_base ho0) hb); have n1_ := Aside0.mk (Kd.R_lower (Kd.R_new' ho0 (Kd.R_lt (kr HO222.out))) (below_size (bp HB.out))); have n2_ := an0 HB hb; clear HO222; clear HB; have HO222 := n0_; have HO225 := n1_; have HB := n2_; clear n0_ n1_ n2_; (try clear hb); (try clear hb2); (try clear hk); (try clear hi); (try clear ho0)) | (go_at_call 39; (with_reducible refine (spec_PartDigests.calls k _ _ l1 _ _ l2 t226 _ ?side1 ?side2 ?side3 ?side4 A5.out).mono ?_); (case side1 => exact cc (Kd.C_below HR1.out HB.out)); (case side2 => exact HC1.out); (case side3 => exact cc (Kd.C_below HR2.out HB.out)); (case side4 => exact HC2.out); rintro e w9 ⟨v227, rfl, ho0, hb⟩; have n0_ := Aside0.mk (Kd.R_elder' (kr HO222.out) (Kd.R_base ho0) hb); have n1_ := Aside0.mk (Kd.R_elder' (kr HO225.out) (Kd.R_base ho0) hb); have n2_ := Aside0.mk (Kd.R_lower (Kd.R_new' (Kd.R_new' ho0 (Kd.R_lt (kr HO222.out))) (Kd.R_lt (kr HO225.out))) (below_size (bp HB.out))); have n3_ := an0 HB hb; clear HO222; clear HO225; clear HB; have HO222 := n0_; have HO225 := n1_; have HO228 := n2_; have HB := n3_; clear n0_ n1_ n2_ n3_; (try clear hb); (try clear hb2); (try clear hk); (try clear hi); (try clear ho0)))
  repeat (go_quiet (first | ((with_reducible refine gate_dst (N := 11) rfl ?_); (try (refine gate_guard (by rfl) ?_; dsimp only)); refine Kd.R_lit (Kd.int .i64) _ 3 ?hg (N := 11) ?hd (xs := ([] : List Int)) (inner := []) (ok := fun _ => True) (okp := fun _ => True) ?hr ?hp (fun _ hk => hk) trivial (Below.refl _ _) (Nat.le_refl _) (by simp) ?_; (case hd => rfl); (case hg => rfl); (case hr => first | (go_simp; done) | (go_simp; rfl)); (case hp => exact (Reps.none _ _)); intro v221 w6 ho7 hb hg_ hnew_; clear hg_ hnew_; (first | rw [← Ny220.out] at ho7 | (simp only [Int.reduceToNat] at ho7; rw [← Ny220.out] at ho7)); have n0_ := Aside0.mk (Kd.R_lower ho7 (below_size (bp HB.out))); have n1_ := an0 HB hb; clear HB; have HO222 := n0_; have HB := n1_; clear n0_ n1_; clear hb ho7) | (go_at_call 39; (with_reducible refine (spec_PartDigests.calls k _ _ l0 _ _ l2 t223 _ ?side1 ?side2 ?side3 ?side4 A4.out).mono ?_); (case side1 => exact cc (Kd.C_below HR0.out HB.out)); (case side2 => exact HC0.out); (case side3 => exact cc (Kd.C_below HR2.out HB.out)); (case side4 => exact HC2.out); rintro e w8 ⟨v224, rfl, ho0, hb⟩; have n0_ := Aside0.mk (Kd.R_elder' (kr HO222.out) (Kd.R_base ho0) hb); have n1_ := Aside0.mk (Kd.R_lower (Kd.R_new' ho0 (Kd.R_lt (kr HO222.out))) (below_size (bp HB.out))); have n2_ := an0 HB hb; clear HO222; clear HB; have HO222 := n0_; have HO225 := n1_; have HB := n2_; clear n0_ n1_ n2_; (try clear hb); (try clear hb2); (try clear hk); (try clear hi); (try clear ho0)) | (go_at_call 39; (with_reducible refine (spec_PartDigests.calls k _ _ l1 _ _ l2 t226 _ ?side1 ?side2 ?side3 ?side4 A5.out).mono ?_); (case side1 => exact cc (Kd.C_below HR1.out HB.out)); (case side2 => exact HC1.out); (case side3 => exact cc (Kd.C_below HR2.out HB.out)); (case side4 => exact HC2.out); rintro e w9 ⟨v227, rfl, ho0, hb⟩; have n0_ := Aside0.mk (Kd.R_elder' (kr HO222.out) (Kd.R_base ho0) hb); have n1_ := Aside0.mk (Kd.R_elder' (kr HO225.out) (Kd.R_base ho0) hb); have n2_ := Aside0.mk (Kd.R_lower (Kd.R_new' (Kd.R_new' ho0 (Kd.R_lt (kr HO222.out))) (Kd.R_lt (kr HO225.out))) (below_size (bp HB.out))); have n3_ := an0 HB hb; clear HO222; clear HO225; clear HB; have HO222 := n0_; have HO225 := n1_; have HO228 := n2_; have HB := n3_; clear n0_ n1_ n2_ n3_; (try clear hb); (try clear hb2); (try clear hk); (try clear hi); (try clear ho0))); try go_wp2_with (first | ((with_reducible refine gate_dst (N := 11) rfl ?_); (try (refine gate_guard (by rfl) ?_; dsimp only)); refine Kd.R_lit (Kd.int .i64) _ 3 ?hg (N := 11) ?hd (xs := ([] : List Int)) (inner := []) (ok := fun _ => True) (okp := fun _ => True) ?hr ?hp (fun _ hk => hk) trivial (Below.refl _ _) (Nat.le_refl _) (by simp) ?_; (case hd => rfl); (case hg => rfl); (case hr => first | (go_simp; done) | (go_simp; rfl)); (case hp => exact (Reps.none _ _)); intro v221 w6 ho7 hb hg_ hnew_; clear hg_ hnew_; (first | rw [← Ny220.out] at ho7 | (simp only [Int.reduceToNat] at ho7; rw [← Ny220.out] at ho7)); have n0_ := Aside0.mk (Kd.R_lower ho7 (below_size (bp HB.out))); have n1_ := an0 HB hb; clear HB; have HO222 := n0_; have HB := n1_; clear n0_ n1_; clear hb ho7) | (go_at_call 39; (with_reducible refine (spec_PartDigests.calls k _ _ l0 _ _ l2 t223 _ ?side1 ?side2 ?side3 ?side4 A4.out).mono ?_); (case side1 => exact cc (Kd.C_below HR0.out HB.out)); (case side2 => exact HC0.out); (case side3 => exact cc (Kd.C_below HR2.out HB.out)); (case side4 => exact HC2.out); rintro e w8 ⟨v224, rfl, ho0, hb⟩; have n0_ := Aside0.mk (Kd.R_elder' (kr HO222.out) (Kd.R_base ho0) hb); have n1_ := Aside0.mk (Kd.R_lower (Kd.R_new' ho0 (Kd.R_lt (kr HO222.out))) (below_size (bp HB.out))); have n2_ := an0 HB hb; clear HO222; clear HB; have HO222 := n0_; have HO225 := n1_; have HB := n2_; clear n0_ n1_ n2_; (try clear hb); (try clear hb2); (try clear hk); (try clear hi); (try clear ho0)) | (go_at_call 39; (with_reducible refine (spec_PartDigests.calls k _ _ l1 _ _ l2 t226 _ ?side1 ?side2 ?side3 ?side4 A5.out).mono ?_); (case side1 => exact cc (Kd.C_below HR1.out HB.out)); (case side2 => exact HC1.out); (case side3 => exact cc (Kd.C_below HR2.out HB.out)); (case side4 => exact HC2.out); rintro e w9 ⟨v227, rfl, ho0, hb⟩; have n0_ := Aside0.mk (Kd.R_elder' (kr HO222.out) (Kd.R_base ho0) hb); have n1_ := Aside0.mk (Kd.R_elder' (kr HO225.out) (Kd.R_base ho0) hb); have n2_ := Aside0.mk (Kd.R_lower (Kd.R_new' (Kd.R_new' ho0 (Kd.R_lt (kr HO222.out))) (Kd.R_lt (kr HO225.out))) (below_size (bp HB.out))); have n3_ := an0 HB hb; clear HO222; clear HO225; clear HB; have HO222 := n0_; have HO225 := n1_; have HO228 := n2_; have HB := n3_; clear n0_ n1_ n2_ n3_; (try clear hb); (try clear hb2); (try clear hk); (try clear hi); (try clear ho0))))
  go_loopg [7, 10] k (fun kq v7 v10 w' => ∃ (x7_1 : List Int) (x10_1 : Int), v10 = .int .i64 x10_1 ∧ Aside0 (spec_DiffParts.l0 kq x7_1 t223 t226 x10_1 = some r) ∧ Aside0 (kq ≤ k) ∧ Aside0 (Kd.R (Kd.int .i64) 3 w' w.heap.size (fun k_ => some k_ ≠ (v224 : Value).ownBlock ∧ some k_ ≠ (v227 : Value).ownBlock) v7 x7_1) ∧ Aside0 (Kd.R (Kd.int .i64) 3 w' w.heap.size (fun k_ => some k_ ≠ (v7 : Value).ownBlock ∧ some k_ ≠ (v227 : Value).ownBlock) v224 t223) ∧ Aside0 (Kd.R (Kd.int .i64) 3 w' w.heap.size (fun k_ => some k_ ≠ (v7 : Value).ownBlock ∧ some k_ ≠ (v224 : Value).ownBlock) v227 t226) ∧ Aside0 (Below w.heap.size w w'))
  case atStart => exact ⟨(y220), (0), (by first | rfl | (simp; done) | (simp [*]; done) | (simp [bne_nil_, beq_nil_]; done)), H', ⟨Nat.le_refl _⟩, ⟨by (with_reducible repeat (first | apply Kd.R_alloc | apply Kd.R_drewN | apply Kd.R_drew)); exact Kd.R_mono HO222.out (fun _ hk => ⟨hk.1.2, hk.2⟩)⟩, ⟨by (with_reducible repeat (first | apply Kd.R_alloc | apply Kd.R_drewN | apply Kd.R_drew)); exact Kd.R_mono HO225.out (fun _ hk => ⟨hk.1.2, hk.2⟩)⟩, ⟨by (with_reducible repeat (first | apply Kd.R_alloc | apply Kd.R_drewN | apply Kd.R_drew)); exact Kd.R_mono HO228.out (fun _ hk => ⟨hk.1.2, hk.2⟩)⟩, ⟨bp HB.out⟩⟩
  case round =>
    clear H'
    try clear c1
    try clear c2
    try clear p2
    try clear c4
    obtain ⟨x7_1, x10_1, rfl, HA, HK1, HO_7, HO_8, HO_9, HB⟩ := hrel
    cases gk with
    | zero => exact absurd HA.out (by simp [spec_DiffParts.l0])
    | succ k1 =>
      have H := HA.out
      clear HA
      simp only [spec_DiffParts.l0] at H
      have HC10 := Aside0.mk H
      clear H
      go_upto_region 5 with (fail)
      repeat (go_quiet (fail); go_upto_region 5 with (fail))
      go_cut [27] (fun v27 wc => ∃ (kq : Nat) (x27_9 : Bool), v27 = .bool x27_9 ∧ Aside0 (spec_DiffParts.j1 kq x7_1 t223 t226 x10_1 x27_9 = some r) ∧ Aside0 (kq ≤ k1) ∧ Aside0 (Kd.R (Kd.int .i64) 3 wc w.heap.size (fun k_ => some k_ ≠ (v224 : Value).ownBlock ∧ some k_ ≠ (v227 : Value).ownBlock) u7 x7_1) ∧ Aside0 (Kd.R (Kd.int .i64) 3 wc w.heap.size (fun k_ => some k_ ≠ (u7 : Value).ownBlock ∧ some k_ ≠ (v227 : Value).ownBlock) v224 t223) ∧ Aside0 (Kd.R (Kd.int .i64) 3 wc w.heap.size (fun k_ => some k_ ≠ (u7 : Value).ownBlock ∧ some k_ ≠ (v224 : Value).ownBlock) v227 t226) ∧ Aside0 (Below w.heap.size w wc))
      case first =>
        have H := HC10.out
        clear HC10
        by_cases c11 : x10_1 < (t223.length : Int)
        · rw [if_pos c11] at H
          have c11b0 : decide (x10_1 < (t223.length : Int)) = true := decide_eq_true c11
          clear c11
          (first | rw [c11b0] | (simp only [i64_w, i32_w]; rw [c11b0]) | skip)
          have H' := Aside0.mk H
          clear H
          obtain ⟨Ao12, co12, eo12⟩ := Kd.R_slice HO_8.out
          subst eo12
          obtain ⟨Ao13, co13, eo13⟩ := Kd.R_slice HO_9.out
          subst eo13
          go_wp2
          repeat (go_quiet (fail); try go_wp2)
          go_meet
          case rel => exact ⟨_, (decide (x10_1 < (t226.length : Int))), (by first | rfl | (simp; done) | (simp [*]; done) | (simp [bne_nil_, beq_nil_]; done)), H', ⟨by have := HK1.out; first | omega | exact Nat.le_refl _⟩, ⟨by (with_reducible repeat (first | apply Kd.R_alloc | apply Kd.R_drewN | apply Kd.R_drew)); exact HO_7.out⟩, ⟨by (with_reducible repeat (first | apply Kd.R_alloc | apply Kd.R_drewN | apply Kd.R_drew)); exact HO_8.out⟩, ⟨by (with_reducible repeat (first | apply Kd.R_alloc | apply Kd.R_drewN | apply Kd.R_drew)); exact HO_9.out⟩, ⟨bp HB.out⟩⟩
        · rw [if_neg c11] at H
          have c11b0 : decide (x10_1 < (t223.length : Int)) = false := decide_eq_false c11
          clear c11
          (first | rw [c11b0] | (simp only [i64_w, i32_w]; rw [c11b0]) | skip)
          have H' := Aside0.mk H
          clear H
          obtain ⟨Ao14, co14, eo14⟩ := Kd.R_slice HO_8.out
          subst eo14
          go_wp2
          repeat (go_quiet (fail); try go_wp2)
          go_meet
          case rel => exact ⟨_, (false), (by first | rfl | (simp; done) | (simp [*]; done) | (simp [bne_nil_, beq_nil_]; done)), H', ⟨by have := HK1.out; first | omega | exact Nat.le_refl _⟩, ⟨by (with_reducible repeat (first | apply Kd.R_alloc | apply Kd.R_drewN | apply Kd.R_drew)); exact HO_7.out⟩, ⟨by (with_reducible repeat (first | apply Kd.R_alloc | apply Kd.R_drewN | apply Kd.R_drew)); exact HO_8.out⟩, ⟨by (with_reducible repeat (first | apply Kd.R_alloc | apply Kd.R_drewN | apply Kd.R_drew)); exact HO_9.out⟩, ⟨bp HB.out⟩⟩
      case rest =>
        clear HC10
        try clear c1
        try clear c2
        try clear p2
        try clear c4
        try clear c11
        try clear c11b0
        try clear p2
        obtain ⟨kq, x27_9, rfl, HA, HJ9, HO_7, HO_8, HO_9, HB⟩ := hcut
        cases kq with
        | zero => exact absurd HA.out (by simp [spec_DiffParts.j1])
        | succ kj9 =>
          have H := HA.out
          clear HA
          simp only [spec_DiffParts.j1] at H
          by_cases c15 : x27_9 = true
          · subst c15
            have H1 : (if 0 ≤ x10_1 then (if x10_1 < (t223.length : Int) then (if x10_1 < (t226.length : Int) then (if (rd t223 x10_1) = (rd t226 x10_1) then (spec_DiffParts.l0 kj9 x7_1 t223 t226 (wrap64 (x10_1 + 1))) else (if x7_1.length < 17592186044416 then (spec_DiffParts.l0 kj9 (x7_1 ++ [x10_1]) t223 t226 (wrap64 (x10_1 + 1))) else (none))) else (none)) else (none)) else (none)) = some r := by rw [if_pos rfl] at H; exact H
            clear H
            have H := H1
            clear H1
            by_cases c16 : 0 ≤ x10_1
            · rw [if_pos c16] at H
              have c16b0 : decide (0 ≤ x10_1) = true := decide_eq_true c16
              clear c16
              by_cases c17 : x10_1 < (t223.length : Int)
              · rw [if_pos c17] at H
                have c17b0 : decide (x10_1 < (t223.length : Int)) = true := decide_eq_true c17
                clear c17
                by_cases c18 : x10_1 < (t226.length : Int)
                · rw [if_pos c18] at H
                  have c18b0 : decide (x10_1 < (t226.length : Int)) = true := decide_eq_true c18
                  clear c18
                  by_cases c19 : (rd t223 x10_1) = (rd t226 x10_1)
                  · rw [if_pos c19] at H
                    have c19b0 : ((rd t223 x10_1) == (rd t226 x10_1)) = true := beq_iff_eq.mpr c19
                    have c19b1 : ((rd t223 x10_1) != (rd t226 x10_1)) = false := bne_eq_false_iff_eq.mpr c19
                    clear c19
                    have H' := Aside0.mk H
                    clear H
                    obtain ⟨Ao20, co20, eo20⟩ := Kd.R_slice HO_8.out
                    subst eo20
                    have p229 : 0 ≤ (x10_1 : Int) := of_decide_eq_true (by first | (with_reducible assumption) | assumption)
                    have q229 : x10_1 < (t223.length : Int) := of_decide_eq_true (by first | (with_reducible assumption) | assumption)
                    obtain ⟨ad229, e229, hx229_0⟩ := Kd.at_int (Kd.R_reads' HO_8.out).2.2 x10_1 p229 q229
                    cases e229
                    replace p229 := eq_true p229
                    replace q229 := eq_true q229
                    obtain ⟨Ao21, co21, eo21⟩ := Kd.R_slice HO_9.out
                    subst eo21
                    have p230 : 0 ≤ (x10_1 : Int) := of_decide_eq_true (by first | (with_reducible assumption) | assumption)
                    have q230 : x10_1 < (t226.length : Int) := of_decide_eq_true (by first | (with_reducible assumption) | assumption)
                    obtain ⟨ad230, e230, hx230_0⟩ := Kd.at_int (Kd.R_reads' HO_9.out).2.2 x10_1 p230 q230
                    cases e230
                    replace p230 := eq_true p230
                    replace q230 := eq_true q230
                    go_wp2
                    repeat (go_quiet (fail); try go_wp2)
                    go_roundg kj9
                    case measure => have := HK1.out; have := HJ9.out; omega
                    case rel => exact ⟨(x7_1), (wrap64 (x10_1 + 1)), (by first | rfl | (simp; done) | (simp [*]; done) | (simp [bne_nil_, beq_nil_]; done)), H', ⟨by have := HK1.out; have := HJ9.out; omega⟩, ⟨by (with_reducible repeat (first | apply Kd.R_alloc | apply Kd.R_drewN | apply Kd.R_drew)); exact HO_7.out⟩, ⟨by (with_reducible repeat (first | apply Kd.R_alloc | apply Kd.R_drewN | apply Kd.R_drew)); exact HO_8.out⟩, ⟨by (with_reducible repeat (first | apply Kd.R_alloc | apply Kd.R_drewN | apply Kd.R_drew)); exact HO_9.out⟩, ⟨bp HB.out⟩⟩
                  · rw [if_neg c19] at H
                    have c19b0 : ((rd t223 x10_1) == (rd t226 x10_1)) = false := beq_eq_false_iff_ne.mpr c19
                    have c19b1 : ((rd t223 x10_1) != (rd t226 x10_1)) = true := bne_iff_ne.mpr c19
                    by_cases c22 : x7_1.length < 17592186044416
                    · rw [if_pos c22] at H
                      have LMc22 := Aside0.mk c22
                      clear c22
                      obtain ⟨y231, hy231⟩ : ∃ y_ : List Int, y_ = (x7_1 ++ [x10_1]) := ⟨_, rfl⟩
                      replace H : (spec_DiffParts.l0 kj9 y231 t223 t226 (wrap64 (x10_1 + 1))) = some r := by first | (rw [hy231]; with_reducible exact H) | (have H2_ := (Option.bind_some _ _).symm.trans H; rw [hy231]; with_reducible exact H2_) | (have H2_ := (Option.bind_some _ _).symm.trans H; with_reducible exact H2_) | with_reducible exact H | (rw [hy231]; exact H) | exact H
                      have Ny231 := Aside0.mk hy231
                      clear hy231
                      have H' := Aside0.mk H
                      clear H
                      obtain ⟨Ao23, co23, eo23⟩ := Kd.R_slice HO_8.out
                      subst eo23
                      have p229 : 0 ≤ (x10_1 : Int) := of_decide_eq_true (by first | (with_reducible assumption) | assumption)
                      have q229 : x10_1 < (t223.length : Int) := of_decide_eq_true (by first | (with_reducible assumption) | assumption)
                      obtain ⟨ad229, e229, hx229_0⟩ := Kd.at_int (Kd.R_reads' HO_8.out).2.2 x10_1 p229 q229
                      cases e229
                      replace p229 := eq_true p229
                      replace q229 := eq_true q229
                      obtain ⟨Ao24, co24, eo24⟩ := Kd.R_slice HO_9.out
                      subst eo24
                      have p230 : 0 ≤ (x10_1 : Int) := of_decide_eq_true (by first | (with_reducible assumption) | assumption)
                      have q230 : x10_1 < (t226.length : Int) := of_decide_eq_true (by first | (with_reducible assumption) | assumption)
                      obtain ⟨ad230, e230, hx230_0⟩ := Kd.at_int (Kd.R_reads' HO_9.out).2.2 x10_1 p230 q230
                      cases e230
                      replace p230 := eq_true p230
                      replace q230 := eq_true q230
                      go_wp2_with (first | ((with_reducible refine gate_builtin (b := .append) (xs := #[.tmp 39, .tmp 41]) rfl ?_); (try (refine gate_guard (by rfl) ?_; dsimp only)); at_builtin; refine Kd.R_append (Kd.int .i64) (w0 := w) w.heap.size rfl (.tmp 39) (.tmp 41) 33 3 (.int .i64 0) 8 rfl Try.underlying33 info3 rfl (by decide) (by omega) u7 x7_1 x10_1 [.int .i64 x10_1] (fun k_ => some k_ ≠ (.slice (some ad229) t223.length co23 : Value).ownBlock ∧ some k_ ≠ (.slice (some ad230) t226.length co24 : Value).ownBlock) (fun _ => False) rfl rfl ?aP (fun _ hk => hk.elim) ?aF ?aO ?aB ?aS ?aL ?_; (case aP => exact rfl); (case aB => exact (bp HB.out)); (case aF => exact (fun k_ hk => ⟨Kd.fresh' (Kd.R_lt (kr HO_8.out)) k_ hk, Kd.fresh' (Kd.R_lt (kr HO_9.out)) k_ hk⟩)); (case aO => exact (kr HO_7.out)); (case aS => exact (below_size (bp HB.out))); (case aL => have := LMc22.out; omega); intro v232 w25 ho hb hg hat; rw [← Ny231.out] at ho; have n0_ := Aside0.mk (Kd.R_after (ok := (fun k_ => some k_ ≠ (.slice (some ad230) t226.length co24 : Value).ownBlock)) (by (with_reducible repeat (first | apply Kd.R_alloc | apply Kd.R_drewN | apply Kd.R_drew)); exact Kd.R_mono HO_8.out (fun _ hk => ⟨hk.2, hk.1⟩)) hg hat); have n1_ := Aside0.mk (Kd.R_after (ok := (fun k_ => some k_ ≠ (.slice (some ad229) t223.length co23 : Value).ownBlock)) (by (with_reducible repeat (first | apply Kd.R_alloc | apply Kd.R_drewN | apply Kd.R_drew)); exact Kd.R_mono HO_9.out (fun _ hk => ⟨hk.2, hk.1⟩)) hg hat); have n2_ := Aside0.mk (hb); have n3_ := Aside0.mk (ho); clear HO_8; clear HO_9; clear HB; clear HO_7; have HO_8 := n0_; have HO_9 := n1_; have HB := n2_; have HO233 := n3_; clear n0_ n1_ n2_ n3_; clear ho hb hg hat))
                      repeat (go_quiet (first | ((with_reducible refine gate_builtin (b := .append) (xs := #[.tmp 39, .tmp 41]) rfl ?_); (try (refine gate_guard (by rfl) ?_; dsimp only)); at_builtin; refine Kd.R_append (Kd.int .i64) (w0 := w) w.heap.size rfl (.tmp 39) (.tmp 41) 33 3 (.int .i64 0) 8 rfl Try.underlying33 info3 rfl (by decide) (by omega) u7 x7_1 x10_1 [.int .i64 x10_1] (fun k_ => some k_ ≠ (.slice (some ad229) t223.length co23 : Value).ownBlock ∧ some k_ ≠ (.slice (some ad230) t226.length co24 : Value).ownBlock) (fun _ => False) rfl rfl ?aP (fun _ hk => hk.elim) ?aF ?aO ?aB ?aS ?aL ?_; (case aP => exact rfl); (case aB => exact (bp HB.out)); (case aF => exact (fun k_ hk => ⟨Kd.fresh' (Kd.R_lt (kr HO_8.out)) k_ hk, Kd.fresh' (Kd.R_lt (kr HO_9.out)) k_ hk⟩)); (case aO => exact (kr HO_7.out)); (case aS => exact (below_size (bp HB.out))); (case aL => have := LMc22.out; omega); intro v232 w25 ho hb hg hat; rw [← Ny231.out] at ho; have n0_ := Aside0.mk (Kd.R_after (ok := (fun k_ => some k_ ≠ (.slice (some ad230) t226.length co24 : Value).ownBlock)) (by (with_reducible repeat (first | apply Kd.R_alloc | apply Kd.R_drewN | apply Kd.R_drew)); exact Kd.R_mono HO_8.out (fun _ hk => ⟨hk.2, hk.1⟩)) hg hat); have n1_ := Aside0.mk (Kd.R_after (ok := (fun k_ => some k_ ≠ (.slice (some ad229) t223.length co23 : Value).ownBlock)) (by (with_reducible repeat (first | apply Kd.R_alloc | apply Kd.R_drewN | apply Kd.R_drew)); exact Kd.R_mono HO_9.out (fun _ hk => ⟨hk.2, hk.1⟩)) hg hat); have n2_ := Aside0.mk (hb); have n3_ := Aside0.mk (ho); clear HO_8; clear HO_9; clear HB; clear HO_7; have HO_8 := n0_; have HO_9 := n1_; have HB := n2_; have HO233 := n3_; clear n0_ n1_ n2_ n3_; clear ho hb hg hat)); try go_wp2_with (first | ((with_reducible refine gate_builtin (b := .append) (xs := #[.tmp 39, .tmp 41]) rfl ?_); (try (refine gate_guard (by rfl) ?_; dsimp only)); at_builtin; refine Kd.R_append (Kd.int .i64) (w0 := w) w.heap.size rfl (.tmp 39) (.tmp 41) 33 3 (.int .i64 0) 8 rfl Try.underlying33 info3 rfl (by decide) (by omega) u7 x7_1 x10_1 [.int .i64 x10_1] (fun k_ => some k_ ≠ (.slice (some ad229) t223.length co23 : Value).ownBlock ∧ some k_ ≠ (.slice (some ad230) t226.length co24 : Value).ownBlock) (fun _ => False) rfl rfl ?aP (fun _ hk => hk.elim) ?aF ?aO ?aB ?aS ?aL ?_; (case aP => exact rfl); (case aB => exact (bp HB.out)); (case aF => exact (fun k_ hk => ⟨Kd.fresh' (Kd.R_lt (kr HO_8.out)) k_ hk, Kd.fresh' (Kd.R_lt (kr HO_9.out)) k_ hk⟩)); (case aO => exact (kr HO_7.out)); (case aS => exact (below_size (bp HB.out))); (case aL => have := LMc22.out; omega); intro v232 w25 ho hb hg hat; rw [← Ny231.out] at ho; have n0_ := Aside0.mk (Kd.R_after (ok := (fun k_ => some k_ ≠ (.slice (some ad230) t226.length co24 : Value).ownBlock)) (by (with_reducible repeat (first | apply Kd.R_alloc | apply Kd.R_drewN | apply Kd.R_drew)); exact Kd.R_mono HO_8.out (fun _ hk => ⟨hk.2, hk.1⟩)) hg hat); have n1_ := Aside0.mk (Kd.R_after (ok := (fun k_ => some k_ ≠ (.slice (some ad229) t223.length co23 : Value).ownBlock)) (by (with_reducible repeat (first | apply Kd.R_alloc | apply Kd.R_drewN | apply Kd.R_drew)); exact Kd.R_mono HO_9.out (fun _ hk => ⟨hk.2, hk.1⟩)) hg hat); have n2_ := Aside0.mk (hb); have n3_ := Aside0.mk (ho); clear HO_8; clear HO_9; clear HB; clear HO_7; have HO_8 := n0_; have HO_9 := n1_; have HB := n2_; have HO233 := n3_; clear n0_ n1_ n2_ n3_; clear ho hb hg hat)))
                      go_roundg kj9
                      case measure => have := HK1.out; have := HJ9.out; omega
                      case rel => exact ⟨(y231), (wrap64 (x10_1 + 1)), (by first | rfl | (simp; done) | (simp [*]; done) | (simp [bne_nil_, beq_nil_]; done)), H', ⟨by have := HK1.out; have := HJ9.out; omega⟩, ⟨by (with_reducible repeat (first | apply Kd.R_alloc | apply Kd.R_drewN | apply Kd.R_drew)); exact HO233.out⟩, ⟨by (with_reducible repeat (first | apply Kd.R_alloc | apply Kd.R_drewN | apply Kd.R_drew)); exact Kd.R_mono HO_8.out (fun _ hk => ⟨hk.2, hk.1⟩)⟩, ⟨by (with_reducible repeat (first | apply Kd.R_alloc | apply Kd.R_drewN | apply Kd.R_drew)); exact Kd.R_mono HO_9.out (fun _ hk => ⟨hk.2, hk.1⟩)⟩, ⟨bp HB.out⟩⟩
                    · rw [if_neg c22] at H
                      exact absurd H (by simp)
                · rw [if_neg c18] at H
                  exact absurd H (by simp)
              · rw [if_neg c17] at H
                exact absurd H (by simp)
            · rw [if_neg c16] at H
              exact absurd H (by simp)
          · replace c15 := Bool.eq_false_iff.mpr c15
            subst c15
            have H1 : (some x7_1) = some r := by rw [if_neg (show ¬ (false = true) by decide)] at H; exact H
            clear H
            have H := H1
            clear H1
            obtain rfl := Option.some.inj H
            go_wp2
            repeat (go_quiet (fail); try go_wp2)
            go_ret
            exact ⟨_, fe, by (with_reducible repeat (first | apply Kd.R_alloc | apply Kd.R_drewN | apply Kd.R_drew)); exact Kd.R_mono HO_7.out (fun _ hk => trivial), bp HB.out⟩

/-! ### impl_lettersOnly: function 127 -/
def impl_lettersOnly.f : Nat → ByteArray → Option (Bool)
  | 0, _ => none
  | k + 1, a0 => if a0.toList = ([] : List UInt8) then (some true) else (if 0 < (a0.size : Int) then (if (bt a0 0) ≥ 97 then (if (bt a0 0) ≤ 122 then (if 1 ≤ (a0.size : Int) then ((impl_lettersOnly.f k (a0.extract 1 a0.size)).bind fun t234 => (some t234)) else (none)) else (some false)) else (some false)) else (none))
theorem impl_lettersOnly.mono_l : ∀ k, (∀ y0, LeO (impl_lettersOnly.f k y0) (impl_lettersOnly.f (k + 1) y0))
  | 0 => fun _ r h => by simp [impl_lettersOnly.f] at h
  | k + 1 => by
    have ih0 := impl_lettersOnly.mono_l k
    · intro y0
      unfold impl_lettersOnly.f
      repeat' first
      | (with_reducible exact ih0 _)
      | (with_reducible exact LeO.refl _)
      | (with_reducible exact LeO.none _)
      | (with_reducible refine LeO.ite ?_ ?_)
      | (with_reducible refine LeO.bind ?_ (fun _ => ?_))
      | exact ih0 _
      | exact LeO.none _
      | refine LeO.ite ?_ ?_
      | refine LeO.bind ?_ (fun _ => ?_)
theorem impl_lettersOnly.mono : ∀ a0 k, LeO (impl_lettersOnly.f k a0) (impl_lettersOnly.f (k + 1) a0) := by
  intro a0 k
  have ih0 := impl_lettersOnly.mono_l k
  exact ih0 a0
set_option maxHeartbeats 8000000 in
set_option maxRecDepth 100000 in
theorem impl_lettersOnly.calls (k : Nat) : ∀ (a0 : ByteArray) (r : Bool) (w : World) (h : impl_lettersOnly.f k a0 = some r),
    Calls Try.prog 127 #[.string a0] w fun e w' => e = .returned (.bool r) ∧ Drawn0 w w' := by
  induction k using Nat.strongRecOn with
  | _ k ih =>
  intro a0 r w h
  cases k with
  | zero => exact absurd h (by simp [impl_lettersOnly.f])
  | succ k =>
  simp only [impl_lettersOnly.f] at h
  have H : (if a0.toList = ([] : List UInt8) then (some true) else (if 0 < (a0.size : Int) then (if (bt a0 0) ≥ 97 then (if (bt a0 0) ≤ 122 then (if 1 ≤ (a0.size : Int) then ((impl_lettersOnly.f k (a0.extract 1 a0.size)).bind fun t234 => (some t234)) else (none)) else (some false)) else (some false)) else (none))) = some r := h
  clear h
  by_cases c2 : a0.toList = ([] : List UInt8)
  · rw [if_pos c2] at H
    have c2b0 : (a0.toList == ([] : List UInt8)) = true := beq_iff_eq.mpr c2
    have c2b1 : (a0.toList != ([] : List UInt8)) = false := bne_eq_false_iff_eq.mpr c2
    clear c2
    obtain rfl := Option.some.inj H
    go_enter Try.func127, Try.ntmps127
    go_wp2
    go_ret
    exact ⟨by first | rfl | (simp; done) | (simp [*]; done) | (simp [bne_nil_, beq_nil_]; done), by repeat (first | exact Drawn0.refl _ | apply Drawn0.step)⟩
  · rw [if_neg c2] at H
    have c2b0 : (a0.toList == ([] : List UInt8)) = false := beq_eq_false_iff_ne.mpr c2
    have c2b1 : (a0.toList != ([] : List UInt8)) = true := bne_iff_ne.mpr c2
    by_cases c3 : 0 < (a0.size : Int)
    · rw [if_pos c3] at H
      have c3b0 : decide (0 < (a0.size : Int)) = true := decide_eq_true c3
      have c3b1 : decide (0 < a0.size) = true := decide_eq_true (by omega)
      clear c3
      by_cases c5 : (bt a0 0) ≥ 97
      · rw [if_pos c5] at H
        have c5b0 : decide (97 ≤ (bt a0 0)) = true := decide_eq_true c5
        clear c5
        by_cases c7 : (bt a0 0) ≤ 122
        · rw [if_pos c7] at H
          have c7b0 : decide ((bt a0 0) ≤ 122) = true := decide_eq_true c7
          clear c7
          by_cases c8 : 1 ≤ (a0.size : Int)
          · rw [if_pos c8] at H
            have c8b0 := eq_true c8
            have c8b1 : decide (1 ≤ (a0.size : Int)) = true := decide_eq_true c8
            clear c8
            replace H := Option.bind_eq_some_iff.mp H
            obtain ⟨t234, A90, H⟩ := H
            replace H : (some t234) = some r := H
            have A9 := Aside0.mk A90
            clear A90
            obtain rfl := Option.some.inj H
            have p4 : 0 ≤ (0 : Int) := (by omega)
            have q4 : 0 < a0.size := (by have : (0 : Int) < (a0.size : Int) := of_decide_eq_true (by first | (with_reducible assumption) | assumption); omega)
            have hx4 : ∀ h : 0 < a0.size, ((a0[0]'h).toNat : Int) = bt a0 0 := bt_at a0 0
            clear p4
            have qi4 : (0 < (a0.size : Int)) = True := eq_true (of_decide_eq_true (by first | (with_reducible assumption) | assumption))
            replace q4 := eq_true q4
            have p6 : 0 ≤ (0 : Int) := (by omega)
            have q6 : 0 < a0.size := (by have : (0 : Int) < (a0.size : Int) := of_decide_eq_true (by first | (with_reducible assumption) | assumption); omega)
            have hx6 : ∀ h : 0 < a0.size, ((a0[0]'h).toNat : Int) = bt a0 0 := bt_at a0 0
            clear p6
            have qi6 : (0 < (a0.size : Int)) = True := eq_true (of_decide_eq_true (by first | (with_reducible assumption) | assumption))
            replace q6 := eq_true q6
            go_enter Try.func127, Try.ntmps127
            go_wp2_with (first | (go_at_call 127; (with_reducible refine (ih k (by omega) (a0.extract 1 a0.size) t234 _ A9.out).mono ?_); rintro e w' ⟨rfl, ⟨nd, rfl⟩⟩))
            go_ret
            exact ⟨by first | rfl | (simp; done) | (simp [*]; done) | (simp [bne_nil_, beq_nil_]; done), by repeat (first | exact Drawn0.refl _ | apply Drawn0.step)⟩
          · rw [if_neg c8] at H
            exact absurd H (by simp)
        · rw [if_neg c7] at H
          have c7b0 : decide ((bt a0 0) ≤ 122) = false := decide_eq_false c7
          clear c7
          obtain rfl := Option.some.inj H
          have p4 : 0 ≤ (0 : Int) := (by omega)
          have q4 : 0 < a0.size := (by have : (0 : Int) < (a0.size : Int) := of_decide_eq_true (by first | (with_reducible assumption) | assumption); omega)
          have hx4 : ∀ h : 0 < a0.size, ((a0[0]'h).toNat : Int) = bt a0 0 := bt_at a0 0
          clear p4
          have qi4 : (0 < (a0.size : Int)) = True := eq_true (of_decide_eq_true (by first | (with_reducible assumption) | assumption))
          replace q4 := eq_true q4
          have p6 : 0 ≤ (0 : Int) := (by omega)
          have q6 : 0 < a0.size := (by have : (0 : Int) < (a0.size : Int) := of_decide_eq_true (by first | (with_reducible assumption) | assumption); omega)
          have hx6 : ∀ h : 0 < a0.size, ((a0[0]'h).toNat : Int) = bt a0 0 := bt_at a0 0
          clear p6
          have qi6 : (0 < (a0.size : Int)) = True := eq_true (of_decide_eq_true (by first | (with_reducible assumption) | assumption))
          replace q6 := eq_true q6
          go_enter Try.func127, Try.ntmps127
          go_wp2
          go_ret
          exact ⟨by first | rfl | (simp; done) | (simp [*]; done) | (simp [bne_nil_, beq_nil_]; done), by repeat (first | exact Drawn0.refl _ | apply Drawn0.step)⟩
      · rw [if_neg c5] at H
        have c5b0 : decide (97 ≤ (bt a0 0)) = false := decide_eq_false c5
        clear c5
        obtain rfl := Option.some.inj H
        have p4 : 0 ≤ (0 : Int) := (by omega)
        have q4 : 0 < a0.size := (by have : (0 : Int) < (a0.size : Int) := of_decide_eq_true (by first | (with_reducible assumption) | assumption); omega)
        have hx4 : ∀ h : 0 < a0.size, ((a0[0]'h).toNat : Int) = bt a0 0 := bt_at a0 0
        clear p4
        have qi4 : (0 < (a0.size : Int)) = True := eq_true (of_decide_eq_true (by first | (with_reducible assumption) | assumption))
        replace q4 := eq_true q4
        go_enter Try.func127, Try.ntmps127
        go_wp2
        go_ret
        exact ⟨by first | rfl | (simp; done) | (simp [*]; done) | (simp [bne_nil_, beq_nil_]; done), by repeat (first | exact Drawn0.refl _ | apply Drawn0.step)⟩
    · rw [if_neg c3] at H
      exact absurd H (by simp)

/-! ### impl_KeyValid: function 74 -/
def impl_KeyValid.f (k : Nat) (a0 : ByteArray) : Option (Bool) := if (a0.size : Int) < 1 then (some false) else (if (a0.size : Int) > 4 then (some false) else ((impl_lettersOnly.f k a0).bind fun t235 => (some t235)))
theorem impl_KeyValid.mono : ∀ a0 k, LeO (impl_KeyValid.f k a0) (impl_KeyValid.f (k + 1) a0) := by
  intro a0 k
  unfold impl_KeyValid.f
  repeat' first
      | (with_reducible exact impl_lettersOnly.mono _ _)
      | (with_reducible exact LeO.refl _)
      | (with_reducible exact LeO.none _)
      | (with_reducible refine LeO.ite ?_ ?_)
      | (with_reducible refine LeO.bind ?_ (fun _ => ?_))
      | exact impl_lettersOnly.mono _ _
      | exact LeO.none _
      | refine LeO.ite ?_ ?_
      | refine LeO.bind ?_ (fun _ => ?_)
set_option maxHeartbeats 8000000 in
set_option maxRecDepth 100000 in
theorem impl_KeyValid.calls (k : Nat) (a0 : ByteArray) (r : Bool) (w : World) (h : impl_KeyValid.f k a0 = some r) :
    Calls Try.prog 74 #[.string a0] w fun e w' => e = .returned (.bool r) ∧ Drawn0 w w' := by
  have H : (if (a0.size : Int) < 1 then (some false) else (if (a0.size : Int) > 4 then (some false) else ((impl_lettersOnly.f k a0).bind fun t235 => (some t235)))) = some r := h
  clear h
  by_cases c2 : (a0.size : Int) < 1
  · rw [if_pos c2] at H
    have c2b0 : decide ((a0.size : Int) < 1) = true := decide_eq_true c2
    have c2b1 : decide (a0.size < 1) = true := decide_eq_true (by omega)
    clear c2
    obtain rfl := Option.some.inj H
    go_enter Try.func74, Try.ntmps74
    go_wp2
    go_ret
    exact ⟨by first | rfl | (simp; done) | (simp [*]; done) | (simp [bne_nil_, beq_nil_]; done), by repeat (first | exact Drawn0.refl _ | apply Drawn0.step)⟩
  · rw [if_neg c2] at H
    have c2b0 : decide ((a0.size : Int) < 1) = false := decide_eq_false c2
    have c2b1 : decide (a0.size < 1) = false := decide_eq_false (by omega)
    clear c2
    by_cases c3 : (a0.size : Int) > 4
    · rw [if_pos c3] at H
      have c3b0 : decide (4 < (a0.size : Int)) = true := decide_eq_true c3
      have c3b1 : decide (4 < a0.size) = true := decide_eq_true (by omega)
      clear c3
      obtain rfl := Option.some.inj H
      go_enter Try.func74, Try.ntmps74
      go_wp2
      go_ret
      exact ⟨by first | rfl | (simp; done) | (simp [*]; done) | (simp [bne_nil_, beq_nil_]; done), by repeat (first | exact Drawn0.refl _ | apply Drawn0.step)⟩
    · rw [if_neg c3] at H
      have c3b0 : decide (4 < (a0.size : Int)) = false := decide_eq_false c3
      have c3b1 : decide (4 < a0.size) = false := decide_eq_false (by omega)
      clear c3
      replace H := Option.bind_eq_some_iff.mp H
      obtain ⟨t235, A40, H⟩ := H
      replace H : (some t235) = some r := H
      have A4 := Aside0.mk A40
      clear A40
      obtain rfl := Option.some.inj H
      go_enter Try.func74, Try.ntmps74
      go_wp2_with (first | ((with_reducible refine gate_callee (f := 127) rfl ?_); refine gsl (some 12) rfl Try.func127 #[.string a0] rfl ?_; (with_reducible refine (impl_lettersOnly.calls k a0 t235 _ A4.out).mono ?_); rintro e w' ⟨rfl, ⟨nd, rfl⟩⟩; refine ⟨_, rfl, ?_⟩))
      go_ret
      exact ⟨by first | rfl | (simp; done) | (simp [*]; done) | (simp [bne_nil_, beq_nil_]; done), by repeat (first | exact Drawn0.refl _ | apply Drawn0.step)⟩

/-! ### impl_valueValid: function 75 -/
def impl_valueValid.f (a0 : Int) : Option (Bool) := if a0 ≥ 0 then (some (decide (a0 ≤ 999))) else (some false)
set_option maxHeartbeats 8000000 in
set_option maxRecDepth 100000 in
theorem impl_valueValid.calls (a0 : Int) (r : Bool) (w : World) (h : impl_valueValid.f a0 = some r) :
    Calls Try.prog 75 #[.int .i64 a0] w fun e w' => e = .returned (.bool r) ∧ Drawn0 w w' := by
  have H : (if a0 ≥ 0 then (some (decide (a0 ≤ 999))) else (some false)) = some r := h
  clear h
  by_cases c2 : a0 ≥ 0
  · rw [if_pos c2] at H
    have c2b0 : decide (0 ≤ a0) = true := decide_eq_true c2
    clear c2
    obtain rfl := Option.some.inj H
    go_enter Try.func75, Try.ntmps75
    go_wp2
    go_ret
    exact ⟨by first | rfl | (simp; done) | (simp [*]; done) | (simp [bne_nil_, beq_nil_]; done), by repeat (first | exact Drawn0.refl _ | apply Drawn0.step)⟩
  · rw [if_neg c2] at H
    have c2b0 : decide (0 ≤ a0) = false := decide_eq_false c2
    clear c2
    obtain rfl := Option.some.inj H
    go_enter Try.func75, Try.ntmps75
    go_wp2
    go_ret
    exact ⟨by first | rfl | (simp; done) | (simp [*]; done) | (simp [bne_nil_, beq_nil_]; done), by repeat (first | exact Drawn0.refl _ | apply Drawn0.step)⟩

/-! ### impl_PairsValid: function 17 -/
mutual
def impl_PairsValid.l0 : Nat → List (S29) → List (S29) → Int → Int → Option (Bool)
  | 0, _, _, _, _ => none
  | k + 1, x0, x8, x9, x10 => if x10 < x9 then (if 0 ≤ x10 then (if x10 < (x8.length : Int) then ((impl_KeyValid.f k ((rd_T29 x8 x10).f0)).bind fun t238 => (if t238 = true then ((impl_valueValid.f ((rd_T29 x8 x10).f1)).bind fun t239 => (impl_PairsValid.j1 k x0 x10 x8 x9 x10 (!t239) ((rd_T29 x8 x10).f0) ((rd_T29 x8 x10).f1))) else (impl_PairsValid.j1 k x0 x10 x8 x9 x10 true ((rd_T29 x8 x10).f0) ((rd_T29 x8 x10).f1)))) else (none)) else (none)) else (some true)
def impl_PairsValid.j1 : Nat → List (S29) → Int → List (S29) → Int → Int → Bool → ByteArray → Int → Option (Bool)
  | 0, _, _, _, _, _, _, _, _ => none
  | k + 1, x0, x3, x8, x9, x10, x24, x238000, x238001 => if x24 = true then (some false) else (if x3 > 0 then (if 0 ≤ (wrap64 (x3 - 1)) then (if (wrap64 (x3 - 1)) < (x0.length : Int) then (if ((Op.bytesLess (((rd_T29 x0 (wrap64 (x3 - 1))).f0).toList) x238000.toList) = true) then (impl_PairsValid.l0 k x0 x8 x9 (wrap64 (x10 + 1))) else (some false)) else (none)) else (none)) else (impl_PairsValid.l0 k x0 x8 x9 (wrap64 (x10 + 1))))
end
def impl_PairsValid.f (k : Nat) (l0 : List (S29)) : Option (Bool) := if (l0.length : Int) > 48 then (some false) else (impl_PairsValid.l0 k l0 l0 (l0.length : Int) 0)
theorem impl_PairsValid.mono_l : ∀ k, (∀ y0 y1 y2 y3, LeO (impl_PairsValid.l0 k y0 y1 y2 y3) (impl_PairsValid.l0 (k + 1) y0 y1 y2 y3)) ∧ (∀ y0 y1 y2 y3 y4 y5 y6 y7, LeO (impl_PairsValid.j1 k y0 y1 y2 y3 y4 y5 y6 y7) (impl_PairsValid.j1 (k + 1) y0 y1 y2 y3 y4 y5 y6 y7))
  | 0 => ⟨fun _ _ _ _ r h => by simp [impl_PairsValid.l0] at h, fun _ _ _ _ _ _ _ _ r h => by simp [impl_PairsValid.j1] at h⟩
  | k + 1 => by
    obtain ⟨ih0, ih1⟩ := impl_PairsValid.mono_l k
    refine ⟨?_, ?_⟩
    · intro y0 y1 y2 y3
      unfold impl_PairsValid.l0
      repeat' first
      | (with_reducible exact ih0 _ _ _ _)
      | (with_reducible exact ih1 _ _ _ _ _ _ _ _)
      | (with_reducible exact impl_KeyValid.mono _ _)
      | (with_reducible exact LeO.refl _)
      | (with_reducible exact LeO.none _)
      | (with_reducible refine LeO.ite ?_ ?_)
      | (with_reducible refine LeO.bind ?_ (fun _ => ?_))
      | exact ih0 _ _ _ _
      | exact ih1 _ _ _ _ _ _ _ _
      | exact impl_KeyValid.mono _ _
      | exact LeO.none _
      | refine LeO.ite ?_ ?_
      | refine LeO.bind ?_ (fun _ => ?_)
    · intro y0 y1 y2 y3 y4 y5 y6 y7
      unfold impl_PairsValid.j1
      repeat' first
      | (with_reducible exact ih0 _ _ _ _)
      | (with_reducible exact ih1 _ _ _ _ _ _ _ _)
      | (with_reducible exact impl_KeyValid.mono _ _)
      | (with_reducible exact LeO.refl _)
      | (with_reducible exact LeO.none _)
      | (with_reducible refine LeO.ite ?_ ?_)
      | (with_reducible refine LeO.bind ?_ (fun _ => ?_))
      | exact ih0 _ _ _ _
      | exact ih1 _ _ _ _ _ _ _ _
      | exact impl_KeyValid.mono _ _
      | exact LeO.none _
      | refine LeO.ite ?_ ?_
      | refine LeO.bind ?_ (fun _ => ?_)
theorem impl_PairsValid.mono : ∀ a0 k, LeO (impl_PairsValid.f k a0) (impl_PairsValid.f (k + 1) a0) := by
  intro a0 k
  obtain ⟨ih0, ih1⟩ := impl_PairsValid.mono_l k
  unfold impl_PairsValid.f
  repeat' first
      | (with_reducible exact ih0 _ _ _ _)
      | (with_reducible exact ih1 _ _ _ _ _ _ _ _)
      | (with_reducible exact impl_KeyValid.mono _ _)
      | (with_reducible exact LeO.refl _)
      | (with_reducible exact LeO.none _)
      | (with_reducible refine LeO.ite ?_ ?_)
      | (with_reducible refine LeO.bind ?_ (fun _ => ?_))
      | exact ih0 _ _ _ _
      | exact ih1 _ _ _ _ _ _ _ _
      | exact impl_KeyValid.mono _ _
      | exact LeO.none _
      | refine LeO.ite ?_ ?_
      | refine LeO.bind ?_ (fun _ => ?_)
set_option maxHeartbeats 8000000 in
set_option maxRecDepth 100000 in
theorem impl_PairsValid.calls (k : Nat) (A0 : Option Addr) (c0 : Nat) (l0 : List (S29)) (r : Bool) (w : World) (hr0 : Kd.C k29 w A0 l0.length l0) (hc0 : l0.length ≤ c0) (h : impl_PairsValid.f k l0 = some r) :
    Calls Try.prog 17 #[.slice A0 l0.length c0] w fun e w' => e = .returned (.bool r) ∧ Below w.heap.size w w' := by
  have hu29 := Try.underlying29
  have HR0 := Aside0.mk hr0
  have HC0 := Aside0.mk hc0
  clear hr0 hc0
  have HB := Aside0.mk (Below.refl w.heap.size w)
  have H : (if (l0.length : Int) > 48 then (some false) else (impl_PairsValid.l0 k l0 l0 (l0.length : Int) 0)) = some r := h
  clear h
  by_cases c2 : (l0.length : Int) > 48
  · rw [if_pos c2] at H
    have c2b0 : decide (48 < (l0.length : Int)) = true := decide_eq_true c2
    have c2b1 : decide (48 < l0.length) = true := decide_eq_true (by omega)
    clear c2
    obtain rfl := Option.some.inj H
    go_enter Try.func17, Try.ntmps17
    go_wp2
    repeat (go_quiet (fail); try go_wp2)
    go_ret
    exact ⟨fe, bp HB.out⟩
  · rw [if_neg c2] at H
    have c2b0 : decide (48 < (l0.length : Int)) = false := decide_eq_false c2
    have c2b1 : decide (48 < l0.length) = false := decide_eq_false (by omega)
    clear c2
    have H' := Aside0.mk H
    clear H
    go_enter Try.func17, Try.ntmps17
    go_wp2
    repeat (go_quiet (fail); try go_wp2)
    go_loopg [10] k (fun kq v10 w' => ∃ (x10_1 : Int), v10 = .int .i64 x10_1 ∧ Aside0 (impl_PairsValid.l0 kq l0 l0 (l0.length : Int) x10_1 = some r) ∧ Aside0 (kq ≤ k) ∧ Aside0 (Below w.heap.size w w'))
    case atStart => exact ⟨(0), (by first | rfl | (simp; done) | (simp [*]; done) | (simp [bne_nil_, beq_nil_]; done)), H', ⟨Nat.le_refl _⟩, ⟨bp HB.out⟩⟩
    case round =>
      clear H'
      try clear c1
      try clear c2
      try clear c2b0
      try clear c2b1
      try clear p2
      obtain ⟨x10_1, rfl, HA, HK1, HB⟩ := hrel
      cases gk with
      | zero => exact absurd HA.out (by simp [impl_PairsValid.l0])
      | succ k1 =>
        have H := HA.out
        clear HA
        simp only [impl_PairsValid.l0] at H
        by_cases c3 : x10_1 < (l0.length : Int)
        · rw [if_pos c3] at H
          have c3b0 : decide (x10_1 < (l0.length : Int)) = true := decide_eq_true c3
          clear c3
          by_cases c4 : 0 ≤ x10_1
          · rw [if_pos c4] at H
            have c4b0 : decide (0 ≤ x10_1) = true := decide_eq_true c4
            clear c4
            by_cases c5 : x10_1 < (l0.length : Int)
            · rw [if_pos c5] at H
              have c5b0 : decide (x10_1 < (l0.length : Int)) = true := decide_eq_true c5
              clear c5
              have HC6 := Aside0.mk H
              clear H
              have p236 : 0 ≤ (x10_1 : Int) := of_decide_eq_true (by first | (with_reducible assumption) | assumption)
              have q236 : x10_1 < (l0.length : Int) := of_decide_eq_true (by first | (with_reducible assumption) | assumption)
              obtain ⟨ad236, e236, hx236_0, hx236_1⟩ := at_T29 HR0.out x10_1 p236 q236
              cases e236
              replace hx236_0 := hcx HB hx236_0
              replace hx236_1 := hcx HB hx236_1
              replace p236 := eq_true p236
              replace q236 := eq_true q236
              go_upto_region 6 with (first | ((with_reducible refine gate_dst (N := 4) rfl ?_); refine bxe (N := 4) (cs := #[.string (⟨#[]⟩ : ByteArray), .int .i64 0]) (t := 29) ?_; intro gb237 hg w7 hbox hb; have BK237 := Aside0.mk (hbox); have GW237 := an2 HB hg; have GE237 := an2 HB hg; replace HB := an0 HB hb; clear hb hbox hg; obtain ⟨hcz8_0, hcz8_1, hfz8_0, hfz8_1⟩ := cl2 BK237))
              repeat (go_quiet (first | ((with_reducible refine gate_dst (N := 4) rfl ?_); refine bxe (N := 4) (cs := #[.string (⟨#[]⟩ : ByteArray), .int .i64 0]) (t := 29) ?_; intro gb237 hg w7 hbox hb; have BK237 := Aside0.mk (hbox); have GW237 := an2 HB hg; have GE237 := an2 HB hg; replace HB := an0 HB hb; clear hb hbox hg; obtain ⟨hcz8_0, hcz8_1, hfz8_0, hfz8_1⟩ := cl2 BK237)); go_upto_region 6 with (first | ((with_reducible refine gate_dst (N := 4) rfl ?_); refine bxe (N := 4) (cs := #[.string (⟨#[]⟩ : ByteArray), .int .i64 0]) (t := 29) ?_; intro gb237 hg w7 hbox hb; have BK237 := Aside0.mk (hbox); have GW237 := an2 HB hg; have GE237 := an2 HB hg; replace HB := an0 HB hb; clear hb hbox hg; obtain ⟨hcz8_0, hcz8_1, hfz8_0, hfz8_1⟩ := cl2 BK237)))
              (try simp only [Act.put, List.setIfInBounds_toArray, List.set_cons_zero, List.set_cons_succ])
              go_cut [24] (fun v24 wc => ∃ (kq : Nat) (x24_5 : Bool), v24 = .bool x24_5 ∧ Aside0 (impl_PairsValid.j1 kq l0 x10_1 l0 (l0.length : Int) x10_1 x24_5 ((rd_T29 l0 x10_1).f0) ((rd_T29 l0 x10_1).f1) = some r) ∧ Aside0 (kq ≤ k1) ∧ Aside0 (wc.heap[gb237]? = some (.cells #[.string ((rd_T29 l0 x10_1).f0), .int .i64 ((rd_T29 l0 x10_1).f1)] 29 (0, 0))) ∧ Aside0 (Below w.heap.size w wc))
              case first =>
                have H := HC6.out
                clear HC6
                replace H := Option.bind_eq_some_iff.mp H
                obtain ⟨t238, A90, H⟩ := H
                replace H : (if t238 = true then ((impl_valueValid.f ((rd_T29 l0 x10_1).f1)).bind fun t239 => (impl_PairsValid.j1 k1 l0 x10_1 l0 (l0.length : Int) x10_1 (!t239) ((rd_T29 l0 x10_1).f0) ((rd_T29 l0 x10_1).f1))) else (impl_PairsValid.j1 k1 l0 x10_1 l0 (l0.length : Int) x10_1 true ((rd_T29 l0 x10_1).f0) ((rd_T29 l0 x10_1).f1))) = some r := H
                have A9 := Aside0.mk A90
                clear A90
                by_cases c10 : t238 = true
                · subst c10
                  have H1 : ((impl_valueValid.f ((rd_T29 l0 x10_1).f1)).bind fun t239 => (impl_PairsValid.j1 k1 l0 x10_1 l0 (l0.length : Int) x10_1 (!t239) ((rd_T29 l0 x10_1).f0) ((rd_T29 l0 x10_1).f1))) = some r := by rw [if_pos rfl] at H; exact H
                  clear H
                  have H := H1
                  clear H1
                  replace H := Option.bind_eq_some_iff.mp H
                  obtain ⟨t239, A110, H⟩ := H
                  replace H : (impl_PairsValid.j1 k1 l0 x10_1 l0 (l0.length : Int) x10_1 (!t239) ((rd_T29 l0 x10_1).f0) ((rd_T29 l0 x10_1).f1)) = some r := H
                  have A11 := Aside0.mk A110
                  clear A110
                  have H' := Aside0.mk H
                  clear H
                  obtain ⟨hcz12_0, hcz12_1, hfz12_0, hfz12_1⟩ := cl2 BK237
                  go_wp2_with (first | (go_at_call 74; (with_reducible refine (impl_KeyValid.calls k1 ((rd_T29 l0 x10_1).f0) true _ A9.out).mono ?_); rintro e w' ⟨rfl, ⟨nd, rfl⟩⟩; (try first | exact ⟨rfl, _, World.drewN_drewN _ _ _⟩ | exact ⟨rfl, _, Eq.trans (World.drewN_drewN _ _ _) (congrArg (World.drewN _) (Nat.add_assoc _ _ _))⟩)) | (go_at_call 75; (with_reducible refine (impl_valueValid.calls ((rd_T29 l0 x10_1).f1) t239 _ A11.out).mono ?_); rintro e w' ⟨rfl, ⟨nd, rfl⟩⟩; (try first | exact ⟨rfl, _, World.drewN_drewN _ _ _⟩ | exact ⟨rfl, _, Eq.trans (World.drewN_drewN _ _ _) (congrArg (World.drewN _) (Nat.add_assoc _ _ _))⟩)))
                  repeat (go_quiet (first | (go_at_call 74; (with_reducible refine (impl_KeyValid.calls k1 ((rd_T29 l0 x10_1).f0) true _ A9.out).mono ?_); rintro e w' ⟨rfl, ⟨nd, rfl⟩⟩; (try first | exact ⟨rfl, _, World.drewN_drewN _ _ _⟩ | exact ⟨rfl, _, Eq.trans (World.drewN_drewN _ _ _) (congrArg (World.drewN _) (Nat.add_assoc _ _ _))⟩)) | (go_at_call 75; (with_reducible refine (impl_valueValid.calls ((rd_T29 l0 x10_1).f1) t239 _ A11.out).mono ?_); rintro e w' ⟨rfl, ⟨nd, rfl⟩⟩; (try first | exact ⟨rfl, _, World.drewN_drewN _ _ _⟩ | exact ⟨rfl, _, Eq.trans (World.drewN_drewN _ _ _) (congrArg (World.drewN _) (Nat.add_assoc _ _ _))⟩))); try go_wp2_with (first | (go_at_call 74; (with_reducible refine (impl_KeyValid.calls k1 ((rd_T29 l0 x10_1).f0) true _ A9.out).mono ?_); rintro e w' ⟨rfl, ⟨nd, rfl⟩⟩; (try first | exact ⟨rfl, _, World.drewN_drewN _ _ _⟩ | exact ⟨rfl, _, Eq.trans (World.drewN_drewN _ _ _) (congrArg (World.drewN _) (Nat.add_assoc _ _ _))⟩)) | (go_at_call 75; (with_reducible refine (impl_valueValid.calls ((rd_T29 l0 x10_1).f1) t239 _ A11.out).mono ?_); rintro e w' ⟨rfl, ⟨nd, rfl⟩⟩; (try first | exact ⟨rfl, _, World.drewN_drewN _ _ _⟩ | exact ⟨rfl, _, Eq.trans (World.drewN_drewN _ _ _) (congrArg (World.drewN _) (Nat.add_assoc _ _ _))⟩))))
                  go_meet
                  case rel => exact ⟨_, (!t239), (by first | rfl | (simp; done) | (simp [*]; done) | (simp [bne_nil_, beq_nil_]; done)), H', ⟨by have := HK1.out; first | omega | exact Nat.le_refl _⟩, ⟨by (with_reducible repeat (first | refine blk_drewN ?_ _ | refine blk_drew ?_ | refine blk_alloc ?_ _)); refine blk_put (cs := #[.string ((rd_T29 l0 x10_1).f0), .int .i64 0]) ?_ 1 _ rfl; (with_reducible repeat (first | refine blk_drewN ?_ _ | refine blk_drew ?_ | refine blk_alloc ?_ _)); refine blk_put (cs := #[.string (⟨#[]⟩ : ByteArray), .int .i64 0]) ?_ 0 _ rfl; (with_reducible repeat (first | refine blk_drewN ?_ _ | refine blk_drew ?_ | refine blk_alloc ?_ _)); exact BK237.out⟩, ⟨bp HB.out⟩⟩
                · replace c10 := Bool.eq_false_iff.mpr c10
                  subst c10
                  have H1 : (impl_PairsValid.j1 k1 l0 x10_1 l0 (l0.length : Int) x10_1 true ((rd_T29 l0 x10_1).f0) ((rd_T29 l0 x10_1).f1)) = some r := by rw [if_neg (show ¬ (false = true) by decide)] at H; exact H
                  clear H
                  have H := H1
                  clear H1
                  have H' := Aside0.mk H
                  clear H
                  obtain ⟨hcz13_0, hcz13_1, hfz13_0, hfz13_1⟩ := cl2 BK237
                  go_wp2_with (first | (go_at_call 74; (with_reducible refine (impl_KeyValid.calls k1 ((rd_T29 l0 x10_1).f0) false _ A9.out).mono ?_); rintro e w' ⟨rfl, ⟨nd, rfl⟩⟩; (try first | exact ⟨rfl, _, World.drewN_drewN _ _ _⟩ | exact ⟨rfl, _, Eq.trans (World.drewN_drewN _ _ _) (congrArg (World.drewN _) (Nat.add_assoc _ _ _))⟩)))
                  repeat (go_quiet (first | (go_at_call 74; (with_reducible refine (impl_KeyValid.calls k1 ((rd_T29 l0 x10_1).f0) false _ A9.out).mono ?_); rintro e w' ⟨rfl, ⟨nd, rfl⟩⟩; (try first | exact ⟨rfl, _, World.drewN_drewN _ _ _⟩ | exact ⟨rfl, _, Eq.trans (World.drewN_drewN _ _ _) (congrArg (World.drewN _) (Nat.add_assoc _ _ _))⟩))); try go_wp2_with (first | (go_at_call 74; (with_reducible refine (impl_KeyValid.calls k1 ((rd_T29 l0 x10_1).f0) false _ A9.out).mono ?_); rintro e w' ⟨rfl, ⟨nd, rfl⟩⟩; (try first | exact ⟨rfl, _, World.drewN_drewN _ _ _⟩ | exact ⟨rfl, _, Eq.trans (World.drewN_drewN _ _ _) (congrArg (World.drewN _) (Nat.add_assoc _ _ _))⟩))))
                  go_meet
                  case rel => exact ⟨_, (true), (by first | rfl | (simp; done) | (simp [*]; done) | (simp [bne_nil_, beq_nil_]; done)), H', ⟨by have := HK1.out; first | omega | exact Nat.le_refl _⟩, ⟨by (with_reducible repeat (first | refine blk_drewN ?_ _ | refine blk_drew ?_ | refine blk_alloc ?_ _)); refine blk_put (cs := #[.string ((rd_T29 l0 x10_1).f0), .int .i64 0]) ?_ 1 _ rfl; (with_reducible repeat (first | refine blk_drewN ?_ _ | refine blk_drew ?_ | refine blk_alloc ?_ _)); refine blk_put (cs := #[.string (⟨#[]⟩ : ByteArray), .int .i64 0]) ?_ 0 _ rfl; (with_reducible repeat (first | refine blk_drewN ?_ _ | refine blk_drew ?_ | refine blk_alloc ?_ _)); exact BK237.out⟩, ⟨bp HB.out⟩⟩
              case rest =>
                clear HC6
                try clear c1
                try clear c2
                try clear c2b0
                try clear c2b1
                try clear p2
                try clear q2
                try clear hx2
                try clear c3
                try clear c3b0
                try clear c4
                try clear c4b0
                try clear c5
                try clear c5b0
                try clear p6
                try clear c10
                try clear hcz12_0
                try clear hcz12_1
                try clear hcz13_0
                try clear hcz13_1
                try clear hcz8_0
                try clear hcz8_1
                try clear hfz12_0
                try clear hfz12_1
                try clear hfz13_0
                try clear hfz13_1
                try clear hfz8_0
                try clear hfz8_1
                try clear hx236_0
                try clear hx236_1
                try clear p2
                try clear p236
                try clear q236
                obtain ⟨kq, x24_5, rfl, HA, HJ5, BK237, HB⟩ := hcut
                cases kq with
                | zero => exact absurd HA.out (by simp [impl_PairsValid.j1])
                | succ kj5 =>
                  have H := HA.out
                  clear HA
                  simp only [impl_PairsValid.j1] at H
                  by_cases c14 : x24_5 = true
                  · subst c14
                    have H1 : (some false) = some r := by rw [if_pos rfl] at H; exact H
                    clear H
                    have H := H1
                    clear H1
                    obtain rfl := Option.some.inj H
                    go_wp2
                    repeat (go_quiet (fail); try go_wp2)
                    go_ret
                    exact ⟨fe, bp HB.out⟩
                  · replace c14 := Bool.eq_false_iff.mpr c14
                    subst c14
                    have H1 : (if x10_1 > 0 then (if 0 ≤ (wrap64 (x10_1 - 1)) then (if (wrap64 (x10_1 - 1)) < (l0.length : Int) then (if ((Op.bytesLess (((rd_T29 l0 (wrap64 (x10_1 - 1))).f0).toList) ((rd_T29 l0 x10_1).f0).toList) = true) then (impl_PairsValid.l0 kj5 l0 l0 (l0.length : Int) (wrap64 (x10_1 + 1))) else (some false)) else (none)) else (none)) else (impl_PairsValid.l0 kj5 l0 l0 (l0.length : Int) (wrap64 (x10_1 + 1)))) = some r := by rw [if_neg (show ¬ (false = true) by decide)] at H; exact H
                    clear H
                    have H := H1
                    clear H1
                    by_cases c15 : x10_1 > 0
                    · rw [if_pos c15] at H
                      have c15b0 : decide (0 < x10_1) = true := decide_eq_true c15
                      clear c15
                      obtain ⟨ji16, hji16⟩ : ∃ j_ : Int, (wrap64 (x10_1 - 1)) = j_ := ⟨_, rfl⟩
                      replace H : (if 0 ≤ (ji16) then (if (ji16) < (l0.length : Int) then (if ((Op.bytesLess (((rd_T29 l0 (ji16)).f0).toList) ((rd_T29 l0 x10_1).f0).toList) = true) then (impl_PairsValid.l0 kj5 l0 l0 (l0.length : Int) (wrap64 (x10_1 + 1))) else (some false)) else (none)) else (none)) = some r := by first | (rw [hji16] at H; exact H) | (simp only [hji16] at H ⊢; exact H)
                      have hji16w : (IntKind.i64.wrap (x10_1 - 1)) = ji16 := (i64_w _).trans hji16
                      by_cases c17 : 0 ≤ (ji16)
                      · rw [if_pos c17] at H
                        have c17b0 : decide (0 ≤ (ji16)) = true := decide_eq_true c17
                        clear c17
                        by_cases c18 : (ji16) < (l0.length : Int)
                        · rw [if_pos c18] at H
                          have c18b0 : decide ((ji16) < (l0.length : Int)) = true := decide_eq_true c18
                          clear c18
                          by_cases c19 : ((Op.bytesLess (((rd_T29 l0 (ji16)).f0).toList) ((rd_T29 l0 x10_1).f0).toList) = true)
                          · rw [if_pos c19] at H
                            have c19b0 : (Op.bytesLess (((rd_T29 l0 (ji16)).f0).toList) ((rd_T29 l0 x10_1).f0).toList) = true := c19
                            clear c19
                            have H' := Aside0.mk H
                            clear H
                            have p240 : 0 ≤ ((ji16) : Int) := of_decide_eq_true (by first | (with_reducible assumption) | assumption)
                            have q240 : (ji16) < (l0.length : Int) := of_decide_eq_true (by first | (with_reducible assumption) | assumption)
                            obtain ⟨ad240, e240, hx240_0, hx240_1⟩ := at_T29 HR0.out (ji16) p240 q240
                            obtain rfl : ad236 = ad240 := (by injection e240)
                            replace hx240_0 := hcx HB hx240_0
                            replace hx240_1 := hcx HB hx240_1
                            replace p240 := eq_true p240
                            replace q240 := eq_true q240
                            obtain ⟨hcz20_0, hcz20_1, hfz20_0, hfz20_1⟩ := cl2 BK237
                            go_wp2
                            repeat (go_quiet (fail); try go_wp2)
                            go_roundg kj5
                            case measure => have := HK1.out; have := HJ5.out; omega
                            case rel => exact ⟨(wrap64 (x10_1 + 1)), (by first | rfl | (simp; done) | (simp [*]; done) | (simp [bne_nil_, beq_nil_]; done)), H', ⟨by have := HK1.out; have := HJ5.out; omega⟩, ⟨bp HB.out⟩⟩
                          · rw [if_neg c19] at H
                            have c19b0 : (Op.bytesLess (((rd_T29 l0 (ji16)).f0).toList) ((rd_T29 l0 x10_1).f0).toList) = false := by simpa using c19
                            clear c19
                            obtain rfl := Option.some.inj H
                            have p240 : 0 ≤ ((ji16) : Int) := of_decide_eq_true (by first | (with_reducible assumption) | assumption)
                            have q240 : (ji16) < (l0.length : Int) := of_decide_eq_true (by first | (with_reducible assumption) | assumption)
                            obtain ⟨ad240, e240, hx240_0, hx240_1⟩ := at_T29 HR0.out (ji16) p240 q240
                            obtain rfl : ad236 = ad240 := (by injection e240)
                            replace hx240_0 := hcx HB hx240_0
                            replace hx240_1 := hcx HB hx240_1
                            replace p240 := eq_true p240
                            replace q240 := eq_true q240
                            obtain ⟨hcz21_0, hcz21_1, hfz21_0, hfz21_1⟩ := cl2 BK237
                            go_wp2
                            repeat (go_quiet (fail); try go_wp2)
                            go_ret
                            exact ⟨by first | rfl | (simp [errW_none, errW_some] <;> rfl) | (simp only [← hji16]; first | rfl | (simp [errW_none, errW_some] <;> rfl)) | (simp [*, errW_none, errW_some] <;> rfl) | (simp only [IntKind.wrap_u8, show ∀ n_ : Int, wrap64 (n_ % 256) = n_ % 256 from fun n_ => by unfold wrap64; omega]; rfl), bp HB.out⟩
                        · rw [if_neg c18] at H
                          exact absurd H (by simp)
                      · rw [if_neg c17] at H
                        exact absurd H (by simp)
                    · rw [if_neg c15] at H
                      have c15b0 : decide (0 < x10_1) = false := decide_eq_false c15
                      clear c15
                      have H' := Aside0.mk H
                      clear H
                      go_wp2
                      repeat (go_quiet (fail); try go_wp2)
                      go_roundg kj5
                      case measure => have := HK1.out; have := HJ5.out; omega
                      case rel => exact ⟨(wrap64 (x10_1 + 1)), (by first | rfl | (simp; done) | (simp [*]; done) | (simp [bne_nil_, beq_nil_]; done)), H', ⟨by have := HK1.out; have := HJ5.out; omega⟩, ⟨bp HB.out⟩⟩
            · rw [if_neg c5] at H
              exact absurd H (by simp)
          · rw [if_neg c4] at H
            exact absurd H (by simp)
        · rw [if_neg c3] at H
          have c3b0 : decide (x10_1 < (l0.length : Int)) = false := decide_eq_false c3
          clear c3
          obtain rfl := Option.some.inj H
          go_wp2
          repeat (go_quiet (fail); try go_wp2)
          go_ret
          exact ⟨fe, bp HB.out⟩

/-! ### impl_keysFrom: function 159 -/
def impl_keysFrom.f : Nat → Int → Option (Int)
  | 0, _ => none
  | k + 1, a0 => if a0 ≥ 4 then (some 1) else ((impl_keysFrom.f k (wrap64 (a0 + 1))).bind fun t241 => (some (wrap64 (1 + (wrap64 (26 * t241))))))
theorem impl_keysFrom.mono_l : ∀ k, (∀ y0, LeO (impl_keysFrom.f k y0) (impl_keysFrom.f (k + 1) y0))
  | 0 => fun _ r h => by simp [impl_keysFrom.f] at h
  | k + 1 => by
    have ih0 := impl_keysFrom.mono_l k
    · intro y0
      unfold impl_keysFrom.f
      repeat' first
      | (with_reducible exact ih0 _)
      | (with_reducible exact LeO.refl _)
      | (with_reducible exact LeO.none _)
      | (with_reducible refine LeO.ite ?_ ?_)
      | (with_reducible refine LeO.bind ?_ (fun _ => ?_))
      | exact ih0 _
      | exact LeO.none _
      | refine LeO.ite ?_ ?_
      | refine LeO.bind ?_ (fun _ => ?_)
theorem impl_keysFrom.mono : ∀ a0 k, LeO (impl_keysFrom.f k a0) (impl_keysFrom.f (k + 1) a0) := by
  intro a0 k
  have ih0 := impl_keysFrom.mono_l k
  exact ih0 a0
set_option maxHeartbeats 8000000 in
set_option maxRecDepth 100000 in
theorem impl_keysFrom.calls (k : Nat) : ∀ (a0 : Int) (r : Int) (w : World) (h : impl_keysFrom.f k a0 = some r),
    Calls Try.prog 159 #[.int .i64 a0] w fun e w' => e = .returned (.int .i64 r) ∧ Drawn0 w w' := by
  induction k using Nat.strongRecOn with
  | _ k ih =>
  intro a0 r w h
  cases k with
  | zero => exact absurd h (by simp [impl_keysFrom.f])
  | succ k =>
  simp only [impl_keysFrom.f] at h
  have H : (if a0 ≥ 4 then (some 1) else ((impl_keysFrom.f k (wrap64 (a0 + 1))).bind fun t241 => (some (wrap64 (1 + (wrap64 (26 * t241))))))) = some r := h
  clear h
  by_cases c2 : a0 ≥ 4
  · rw [if_pos c2] at H
    have c2b0 : decide (4 ≤ a0) = true := decide_eq_true c2
    clear c2
    obtain rfl := Option.some.inj H
    go_enter Try.func159, Try.ntmps159
    go_wp2
    go_ret
    exact ⟨by first | rfl | (simp; done) | (simp [*]; done) | (simp [bne_nil_, beq_nil_]; done), by repeat (first | exact Drawn0.refl _ | apply Drawn0.step)⟩
  · rw [if_neg c2] at H
    have c2b0 : decide (4 ≤ a0) = false := decide_eq_false c2
    clear c2
    replace H := Option.bind_eq_some_iff.mp H
    obtain ⟨t241, A30, H⟩ := H
    replace H : (some (wrap64 (1 + (wrap64 (26 * t241))))) = some r := H
    have A3 := Aside0.mk A30
    clear A30
    obtain rfl := Option.some.inj H
    go_enter Try.func159, Try.ntmps159
    go_wp2_with (first | ((with_reducible refine gate_callee (f := 159) rfl ?_); refine gsl (some 7) rfl Try.func159 #[.int .i64 (wrap64 (a0 + 1))] rfl ?_; (with_reducible refine (ih k (by omega) (wrap64 (a0 + 1)) t241 _ A3.out).mono ?_); rintro e w' ⟨rfl, ⟨nd, rfl⟩⟩; refine ⟨_, rfl, ?_⟩))
    go_ret
    exact ⟨by first | rfl | (simp; done) | (simp [*]; done) | (simp [bne_nil_, beq_nil_]; done), by repeat (first | exact Drawn0.refl _ | apply Drawn0.step)⟩

end Go.Proofs.Ytfeeifefmenlmaa.PFnExactDiffParts
