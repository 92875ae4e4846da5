-- Written by a program of this session, in the manner of the kit's print (wip/pp.py): functions and their contracts.
import Derived.Test.YtfeeifefmenlmaaPFnRealTimex0
import Derived.Test.YtfeeifefmenlmaaPFnRealTimex1
import Derived.Test.YtfeeifefmenlmaaPFnRealTimex2
import Derived.Test.YtfeeifefmenlmaaPFnRealTimex7
namespace Go.Proofs.Ytfeeifefmenlmaa.PFnRealTime
open Go.RowKit Go.Proofs.YtfeeifefmenlmaaW.PrintWords Go.Proofs.YtfeeifefmenlmaaW.PrintLast Go.Proofs.YtfeeifefmenlmaaW.PrintMore
attribute [local go_sem] binOp_leq_str binOp_gtr_str binOp_geq_str max2_int min2_int max_two min_two max_three min_three max_four min_four   -- for this text's walks alone
set_option linter.unusedVariables false
set_option linter.unusedSimpArgs false

/-! ### spec_l20Order: function 79 -/
mutual
def spec_l20Order.l0 : Nat → Int → Int → List Int → Int → List Int → Int → Option (List Int × Int)
  | 0, _, _, _, _, _, _ => none
  | k + 1, x1, x2, x7, x8, x1000, x1001 => if x8 < x1 then (if x7.length < 17592186044416 then (spec_l20Order.l0 k x1 x2 (x7 ++ [x8]) (wrap64 (x8 + 1)) x1000 x1001) else (none)) else (spec_l20Order.l1 k x1 x2 x7 0 x1000 x1001)
def spec_l20Order.l1 : Nat → Int → Int → List Int → Int → List Int → Int → Option (List Int × Int)
  | 0, _, _, _, _, _, _ => none
  | k + 1, x1, x2, x7, x9, x1000, x1001 => if x9 < x1 then ((spec_l20Rd_pick.f k x1000 x1001 x1).bind fun bt389 => (if 0 ≤ x9 then (if x9 < (x7.length : Int) then (if 0 ≤ bt389.1 then (if bt389.1 < (x7.length : Int) then (spec_l20Order.l1 k x1 x2 ((x7.set (x9 : Int).toNat (rd x7 bt389.1)).set (bt389.1 : Int).toNat (rd x7 x9)) (wrap64 (x9 + 1)) x1000 bt389.2) else (none)) else (none)) else (none)) else (none))) else ((spec_l20Rd_odd.f k x1000 x1001 x2).bind fun bt395 => (if bt395.1 = true then ((some (([0, (-1), x1] : List Int) : List Int)).bind fun y397 => ((spec_l20Rd_pick.f k x1000 bt395.2 3).bind fun bt400 => (if 0 ≤ bt400.1 then (if bt400.1 < (y397.length : Int) then (if x7.length < 17592186044416 then (some ((x7 ++ [rd y397 bt400.1]), bt400.2)) else (none)) else (none)) else (none)))) else (some (x7, bt395.2))))
end
def spec_l20Order.f (k : Nat) (s0_0 : List Int) (s0_1 : Int) (a1 : Int) (a2 : Int) : Option (List Int × Int) := spec_l20Order.l0 k a1 a2 (([] : List Int)) 0 s0_0 s0_1
theorem spec_l20Order.mono_l : ∀ k, (∀ y0 y1 y2 y3 y4 y5, LeO (spec_l20Order.l0 k y0 y1 y2 y3 y4 y5) (spec_l20Order.l0 (k + 1) y0 y1 y2 y3 y4 y5)) ∧ (∀ y0 y1 y2 y3 y4 y5, LeO (spec_l20Order.l1 k y0 y1 y2 y3 y4 y5) (spec_l20Order.l1 (k + 1) y0 y1 y2 y3 y4 y5))
  | 0 => ⟨fun _ _ _ _ _ _ r h => by simp [spec_l20Order.l0] at h, fun _ _ _ _ _ _ r h => by simp [spec_l20Order.l1] at h⟩
  | k + 1 => by
    obtain ⟨ih0, ih1⟩ := spec_l20Order.mono_l k
    refine ⟨?_, ?_⟩
    · intro y0 y1 y2 y3 y4 y5
      unfold spec_l20Order.l0
      repeat' first
      | (with_reducible exact ih0 _ _ _ _ _ _)
      | (with_reducible exact ih1 _ _ _ _ _ _)
      | (with_reducible exact spec_l20Rd_odd.mono _ _ _ _)
      | (with_reducible exact spec_l20Rd_pick.mono _ _ _ _)
      | (with_reducible exact LeO.refl _)
      | (with_reducible exact LeO.none _)
      | (with_reducible refine LeO.ite ?_ ?_)
      | (with_reducible refine LeO.bind ?_ (fun _ => ?_))
      | exact ih0 _ _ _ _ _ _
      | exact ih1 _ _ _ _ _ _
      | exact spec_l20Rd_odd.mono _ _ _ _
      | exact spec_l20Rd_pick.mono _ _ _ _
      | exact LeO.none _
      | refine LeO.ite ?_ ?_
      | refine LeO.bind ?_ (fun _ => ?_)
    · intro y0 y1 y2 y3 y4 y5
      unfold spec_l20Order.l1
      repeat' first
      | (with_reducible exact ih0 _ _ _ _ _ _)
      | (with_reducible exact ih1 _ _ _ _ _ _)
      | (with_reducible exact spec_l20Rd_odd.mono _ _ _ _)
      | (with_reducible exact spec_l20Rd_pick.mono _ _ _ _)
      | (with_reducible exact LeO.refl _)
      | (with_reducible exact LeO.none _)
      | (with_reducible refine LeO.ite ?_ ?_)
      | (with_reducible refine LeO.bind ?_ (fun _ => ?_))
      | exact ih0 _ _ _ _ _ _
      | exact ih1 _ _ _ _ _ _
      | exact spec_l20Rd_odd.mono _ _ _ _
      | exact spec_l20Rd_pick.mono _ _ _ _
      | exact LeO.none _
      | refine LeO.ite ?_ ?_
      | refine LeO.bind ?_ (fun _ => ?_)
theorem spec_l20Order.mono : ∀ a0 a1 a2 a3 k, LeO (spec_l20Order.f k a0 a1 a2 a3) (spec_l20Order.f (k + 1) a0 a1 a2 a3) := by
  intro a0 a1 a2 a3 k
  obtain ⟨ih0, ih1⟩ := spec_l20Order.mono_l k
  unfold spec_l20Order.f
  repeat' first
      | (with_reducible exact ih0 _ _ _ _ _ _)
      | (with_reducible exact ih1 _ _ _ _ _ _)
      | (with_reducible exact spec_l20Rd_odd.mono _ _ _ _)
      | (with_reducible exact spec_l20Rd_pick.mono _ _ _ _)
      | (with_reducible exact LeO.refl _)
      | (with_reducible exact LeO.none _)
      | (with_reducible refine LeO.ite ?_ ?_)
      | (with_reducible refine LeO.bind ?_ (fun _ => ?_))
      | exact ih0 _ _ _ _ _ _
      | exact ih1 _ _ _ _ _ _
      | exact spec_l20Rd_odd.mono _ _ _ _
      | exact spec_l20Rd_pick.mono _ _ _ _
      | exact LeO.none _
      | refine LeO.ite ?_ ?_
      | refine LeO.bind ?_ (fun _ => ?_)
theorem spec_l20Order.s0 {P0 Q : Prop} (B0 : P0) (h : P0 → Q := by (intro b0_; repeat (first | (with_reducible first | exact b0_ | apply KeepBut.set_ | apply keep_drewN | apply keep_drew | apply keep_alloc) | exact b0_))) : Q := h B0
theorem spec_l20Order.s1 {P0 Q : Prop} (B0 : P0) (h : P0 → Q := by (intro b0_; repeat (first | (with_reducible first | exact b0_ | apply IsS147.alloc | apply IsS147.drewN | apply IsS147.drew | apply IsS147.set_1) | exact b0_))) : Q := h B0
theorem spec_l20Order.s2 {P0 P1 Q : Prop} (B0 : P0) (B1 : P1) (h : P0 → P1 → Q := by (intro b0_ b1_; repeat (first | (with_reducible first | exact b0_ | apply below_alloc | apply pw_below_drewN | apply below_drew1 | refine below_set ?_ (IsS147.ge b1_)) | exact b0_))) : Q := h B0 B1
set_option maxHeartbeats 8000000 in
set_option maxRecDepth 100000 in
theorem spec_l20Order.calls (k : Nat) (g : Nat) (s0_0 : List Int) (s0_1 : Int) (a1 : Int) (a2 : Int) (r1 : List Int) (r2 : Int) (w0 w : World) (hI : IsS147 w0 w g s0_0 s0_1) (hB : Below w0.heap.size w0 w) (h : spec_l20Order.f k s0_0 s0_1 a1 a2 = some (r1, r2)) :
    Calls Try.prog 79 #[.pointer (some ⟨g, 0, none⟩), .int .i64 a1, .int .i64 a2] w fun e w' => ∃ v0_ : Value, e = .returned (v0_) ∧ Kd.R (Kd.int .i64) 3 w' w.heap.size (fun _ => True) v0_ r1 ∧ IsS147 w0 w' g s0_0 r2 ∧ Below w0.heap.size w0 w' ∧ KeepBut w w' g none := by
  have HI0 := Aside0.mk hI
  have HK := Aside0.mk (KeepBut.refl w g none)
  have HL := Aside0.mk hB.size
  clear hI
  have HW0 := Aside0.mk hB.size
  have HB := Aside0.mk hB
  clear hB
  have H : (spec_l20Order.l0 k a1 a2 (([] : List Int)) 0 s0_0 s0_1) = some (r1, r2) := h
  clear h
  obtain ⟨y383, hy383⟩ : ∃ y_ : List Int, y_ = (([] : List Int)) := ⟨_, rfl⟩
  replace H : (spec_l20Order.l0 k a1 a2 y383 0 s0_0 s0_1) = some (r1, r2) := by first | (rw [hy383]; with_reducible exact H) | (have H2_ := (Option.bind_some _ _).symm.trans H; rw [hy383]; with_reducible exact H2_) | (have H2_ := (Option.bind_some _ _).symm.trans H; with_reducible exact H2_) | with_reducible exact H | (rw [hy383]; exact H) | exact H
  have Ny383 := Aside0.mk hy383
  clear hy383
  have H' := Aside0.mk H
  clear H
  go_enter Try.func79, Try.ntmps79
  go_wp2_with (first | ((with_reducible refine gate_dst (N := 12) rfl ?_); refine Kd.R_lit (Kd.int .i64) _ 3 ?hg (N := 12) ?hd (xs := ([] : List Int)) (inner := []) (ok := fun _ => True) (okp := fun _ => True) ?hr ?hp (fun _ hk => hk) trivial (Below.refl _ _) (Nat.le_refl _) (by simp) ?_; (case hd => rfl); (case hg => rfl); (case hr => first | (go_simp; done) | (go_simp; rfl)); (case hp => exact (Reps.none _ _)); intro v384 w4 ho5 hb hg_ hnew_; clear hg_ hnew_; (first | rw [← Ny383.out] at ho5 | (simp only [Int.reduceToNat] at ho5; rw [← Ny383.out] at ho5)); have n0_ := Aside0.mk (Kd.R_lower ho5 (keep_size (w := w) (g := g) (row := none) (spec_l20Order.s0 HK.out))); have n1_ := Aside0.mk (IsS147.below (spec_l20Order.s1 HI0.out) hb); have n2_ := Aside0.mk (KeepBut.trans (spec_l20Order.s0 HK.out) (KeepBut.of_below hb g none) (.inl rfl)); have n3_ := Aside0.mk (below_step (spec_l20Order.s2 HB.out HI0.out) hb); clear HI0; clear HK; clear HB; have HO385 := n0_; have HI0 := n1_; have HK := n2_; have HB := n3_; clear n0_ n1_ n2_ n3_; clear hb ho5))
  go_loopg [7, 8] k (fun kq v7 v8 w' => ∃ (x7_1 : List Int) (x8_1 : Int), v8 = .int .i64 x8_1 ∧ Aside0 (spec_l20Order.l0 kq a1 a2 x7_1 x8_1 s0_0 s0_1 = some (r1, r2)) ∧ Aside0 (kq ≤ k) ∧ Aside0 (Kd.R (Kd.int .i64) 3 w' w.heap.size (fun _ => True) v7 x7_1) ∧ Aside0 (IsS147 w0 w' g s0_0 s0_1) ∧ Aside0 (KeepBut w w' g none) ∧ Aside0 (Below w0.heap.size w0 w'))
  case atStart => exact ⟨(y383), (0), (by first | rfl | (simp; done) | (simp [*]; done) | (simp [bne_nil_, beq_nil_]; done)), H', ⟨Nat.le_refl _⟩, ⟨by (with_reducible repeat (first | apply Kd.R_alloc | apply Kd.R_drewN | apply Kd.R_drew)); exact HO385.out⟩, ⟨spec_l20Order.s1 HI0.out⟩, ⟨spec_l20Order.s0 HK.out⟩, ⟨spec_l20Order.s2 HB.out HI0.out⟩⟩
  case round =>
    clear H'
    try clear p2
    obtain ⟨x7_1, x8_1, rfl, HA, HK1, HO_7, HI0, HK, HB⟩ := hrel
    cases gk with
    | zero => exact absurd HA.out (by simp [spec_l20Order.l0])
    | succ k1 =>
      have H := HA.out
      clear HA
      simp only [spec_l20Order.l0] at H
      by_cases c6 : x8_1 < a1
      · rw [if_pos c6] at H
        have c6b0 : decide (x8_1 < a1) = true := decide_eq_true c6
        clear c6
        by_cases c7 : x7_1.length < 17592186044416
        · rw [if_pos c7] at H
          have LMc7 := Aside0.mk c7
          clear c7
          obtain ⟨y386, hy386⟩ : ∃ y_ : List Int, y_ = (x7_1 ++ [x8_1]) := ⟨_, rfl⟩
          replace H : (spec_l20Order.l0 k1 a1 a2 y386 (wrap64 (x8_1 + 1)) s0_0 s0_1) = some (r1, r2) := by first | (rw [hy386]; with_reducible exact H) | (have H2_ := (Option.bind_some _ _).symm.trans H; rw [hy386]; with_reducible exact H2_) | (have H2_ := (Option.bind_some _ _).symm.trans H; with_reducible exact H2_) | with_reducible exact H | (rw [hy386]; exact H) | exact H
          have Ny386 := Aside0.mk hy386
          clear hy386
          have H' := Aside0.mk H
          clear H
          go_wp2_with (first | ((with_reducible refine gate_builtin (b := .append) (xs := #[.tmp 18, .tmp 20]) rfl ?_); at_builtin; refine Kd.R_append (Kd.int .i64) w.heap.size rfl (.tmp 18) (.tmp 20) 33 3 (.int .i64 0) 8 rfl Try.underlying33 info3 rfl (by decide) (by omega) u7 x7_1 x8_1 [.int .i64 x8_1] (fun _ => True) (fun _ => False) rfl rfl ?aP (fun _ hk => hk.elim) ?aF ?aO (Below.refl _ _) ?aS ?aL ?_; (case aP => exact rfl); (case aF => exact (fun _ _ => trivial)); (case aO => exact (kr HO_7.out)); (case aS => exact (keep_size (w := w) (g := g) (row := none) (spec_l20Order.s0 HK.out))); (case aL => have := LMc7.out; omega); intro v387 w8 ho hb hg hat; rw [← Ny386.out] at ho; have n0_ := Aside0.mk (IsS147.grown (spec_l20Order.s1 HI0.out) hg (IsS147.own_ne HI0.out HO_7.out (by decide))); have n1_ := Aside0.mk (below_weaken (spec_l20Order.s2 HB.out HI0.out) HL.out hb); have n2_ := Aside0.mk (KeepBut.trans (spec_l20Order.s0 HK.out) (KeepBut.of_grown hg g) (Kd.R_base2 HO_7.out)); have n3_ := Aside0.mk (ho); clear HI0; clear HB; clear HK; clear HO_7; have HI0 := n0_; have HB := n1_; have HK := n2_; have HO388 := n3_; clear n0_ n1_ n2_ n3_; clear ho hb hg hat))
          go_roundg k1
          case measure => have := HK1.out; omega
          case rel => exact ⟨(y386), (wrap64 (x8_1 + 1)), (by first | rfl | (simp; done) | (simp [*]; done) | (simp [bne_nil_, beq_nil_]; done)), H', ⟨by have := HK1.out; omega⟩, ⟨by (with_reducible repeat (first | apply Kd.R_alloc | apply Kd.R_drewN | apply Kd.R_drew)); exact HO388.out⟩, ⟨spec_l20Order.s1 HI0.out⟩, ⟨spec_l20Order.s0 HK.out⟩, ⟨spec_l20Order.s2 HB.out HI0.out⟩⟩
        · rw [if_neg c7] at H
          exact absurd H (by simp)
      · rw [if_neg c6] at H
        have c6b0 : decide (x8_1 < a1) = false := decide_eq_false c6
        clear c6
        have H' := Aside0.mk H
        clear H
        go_wp2
        go_loopg [9] k1 (fun kq v9 w' => ∃ (x7_2 : List Int) (x9_2 : Int) (x1001_2 : Int), v9 = .int .i64 x9_2 ∧ Aside0 (spec_l20Order.l1 kq a1 a2 x7_2 x9_2 s0_0 x1001_2 = some (r1, r2)) ∧ Aside0 (kq ≤ k1) ∧ Aside0 (Kd.R (Kd.int .i64) 3 w' w.heap.size (fun _ => True) u7 x7_2) ∧ Aside0 (IsS147 w0 w' g s0_0 x1001_2) ∧ Aside0 (KeepBut w w' g none) ∧ Aside0 (Below w0.heap.size w0 w'))
        case atStart => exact ⟨(x7_1), (0), (s0_1), (by first | rfl | (simp; done) | (simp [*]; done) | (simp [bne_nil_, beq_nil_]; done)), H', ⟨Nat.le_refl _⟩, ⟨by (with_reducible repeat (first | apply Kd.R_alloc | apply Kd.R_drewN | apply Kd.R_drew)); exact HO_7.out⟩, ⟨spec_l20Order.s1 HI0.out⟩, ⟨spec_l20Order.s0 HK.out⟩, ⟨spec_l20Order.s2 HB.out HI0.out⟩⟩
        case round =>
          clear H'
          try clear p2
          try clear c6
          try clear c6b0
          try clear p6
          try clear c7
          try clear p2
          obtain ⟨x7_2, x9_2, x1001_2, rfl, HA, HK2, HO_7, HI0, HK, HB⟩ := hrel
          cases gk with
          | zero => exact absurd HA.out (by simp [spec_l20Order.l1])
          | succ k2 =>
            have H := HA.out
            clear HA
            simp only [spec_l20Order.l1] at H
            by_cases c9 : x9_2 < a1
            · rw [if_pos c9] at H
              have c9b0 : decide (x9_2 < a1) = true := decide_eq_true c9
              clear c9
              replace H := Option.bind_eq_some_iff.mp H
              obtain ⟨⟨t389, t390⟩, A100, H⟩ := H
              replace H : (if 0 ≤ x9_2 then (if x9_2 < (x7_2.length : Int) then (if 0 ≤ t389 then (if t389 < (x7_2.length : Int) then (spec_l20Order.l1 k2 a1 a2 ((x7_2.set (x9_2 : Int).toNat (rd x7_2 t389)).set (t389 : Int).toNat (rd x7_2 x9_2)) (wrap64 (x9_2 + 1)) s0_0 t390) else (none)) else (none)) else (none)) else (none)) = some (r1, r2) := H
              have A10 := Aside0.mk A100
              clear A100
              by_cases c11 : 0 ≤ x9_2
              · rw [if_pos c11] at H
                have c11b0 : decide (0 ≤ x9_2) = true := decide_eq_true c11
                clear c11
                by_cases c12 : x9_2 < (x7_2.length : Int)
                · rw [if_pos c12] at H
                  have c12b0 : decide (x9_2 < (x7_2.length : Int)) = true := decide_eq_true c12
                  clear c12
                  by_cases c13 : 0 ≤ t389
                  · rw [if_pos c13] at H
                    have c13b0 : decide (0 ≤ t389) = true := decide_eq_true c13
                    clear c13
                    by_cases c14 : t389 < (x7_2.length : Int)
                    · rw [if_pos c14] at H
                      have c14b0 : decide (t389 < (x7_2.length : Int)) = true := decide_eq_true c14
                      clear c14
                      obtain ⟨y393, hy393⟩ : ∃ y_ : List Int, y_ = (x7_2.set (x9_2 : Int).toNat (rd x7_2 t389)) := ⟨_, rfl⟩
                      replace H : (spec_l20Order.l1 k2 a1 a2 (y393.set (t389 : Int).toNat (rd x7_2 x9_2)) (wrap64 (x9_2 + 1)) s0_0 t390) = some (r1, r2) := by first | (rw [hy393]; with_reducible exact H) | (have H2_ := (Option.bind_some _ _).symm.trans H; rw [hy393]; with_reducible exact H2_) | (have H2_ := (Option.bind_some _ _).symm.trans H; with_reducible exact H2_) | with_reducible exact H | (rw [hy393]; exact H) | exact H
                      have Ny393 := Aside0.mk hy393
                      clear hy393
                      obtain ⟨y394, hy394⟩ : ∃ y_ : List Int, y_ = (y393.set (t389 : Int).toNat (rd x7_2 x9_2)) := ⟨_, rfl⟩
                      replace H : (spec_l20Order.l1 k2 a1 a2 y394 (wrap64 (x9_2 + 1)) s0_0 t390) = some (r1, r2) := by first | (rw [hy394]; with_reducible exact H) | (have H2_ := (Option.bind_some _ _).symm.trans H; rw [hy394]; with_reducible exact H2_) | (have H2_ := (Option.bind_some _ _).symm.trans H; with_reducible exact H2_) | with_reducible exact H | (rw [hy394]; exact H) | exact H
                      have Ny394 := Aside0.mk hy394
                      clear hy394
                      have H' := Aside0.mk H
                      clear H
                      go_wp2_with (first | ((with_reducible refine gate_callee (f := 78) rfl ?_); refine gsl (some 29) rfl Try.func78 #[.pointer (some ⟨g, 0, none⟩), .int .i64 a1] rfl ?_; (with_reducible refine (spec_l20Rd_pick.calls k2 g s0_0 x1001_2 a1 t389 t390 w0 _ ?side1 ?side2 A10.out).mono ?_); (case side1 => exact spec_l20Order.s1 HI0.out); (case side2 => exact spec_l20Order.s2 HB.out HI0.out); rintro e w17 ⟨rfl, hi, hb, hk⟩; refine ⟨_, rfl, ?_⟩; have n0_ := Aside0.mk (Kd.R_mono (Kd.R_keep (IsS147.apart (show IsS147 w0 _ g s0_0 x1001_2 from spec_l20Order.s1 HI0.out) (kr HO_7.out) (by decide)) hk (fun _ h => h.2)) (fun _ h => h.1)); have n1_ := Aside0.mk (KeepBut.trans (spec_l20Order.s0 HK.out) hk (.inl rfl)); have n2_ := Aside0.mk (hb); have n3_ := Aside0.mk (hi); clear HO_7; clear HK; clear HB; clear HI0; have HO_7 := n0_; have HK := n1_; have HB := n2_; have HI0 := n3_; clear n0_ n1_ n2_ n3_; (try clear hb); (try clear hb2); (try clear hk); (try clear hi); obtain ⟨Ao18, co18, eo18⟩ := Kd.R_slice HO_7.out; subst eo18; have p391 : 0 ≤ (x9_2 : Int) := of_decide_eq_true (by first | (with_reducible assumption) | assumption); have q391 : x9_2 < (x7_2.length : Int) := of_decide_eq_true (by first | (with_reducible assumption) | assumption); obtain ⟨ad391, e391, hx391_0⟩ := Kd.at_int (Kd.R_reads' HO_7.out).2.2 x9_2 p391 q391; cases e391; replace p391 := eq_true p391; replace q391 := eq_true q391; have p392 : 0 ≤ (t389 : Int) := of_decide_eq_true (by first | (with_reducible assumption) | assumption); have q392 : t389 < (x7_2.length : Int) := of_decide_eq_true (by first | (with_reducible assumption) | assumption); obtain ⟨ad392, e392, hx392_0⟩ := Kd.at_int (Kd.R_reads' HO_7.out).2.2 t389 p392 q392; obtain rfl : ad391 = ad392 := (by injection e392); replace p392 := eq_true p392; replace q392 := eq_true q392; have p15 : 0 ≤ (x9_2 : Int) := of_decide_eq_true (by first | (with_reducible assumption) | assumption); have q15 : (x9_2 : Int) < ((x7_2.length : Int) : Int) := of_decide_eq_true (by first | (with_reducible assumption) | assumption); obtain ⟨go15, co15, eo15, gb15, gl15, cl15, HG15⟩ := Kd.R_form HO_7.out (by omega); (first | cases eo15 | (injection eo15 with ea_ en_ ec_; (first | subst ea_ | (injection ea_ with ea_; subst ea_)); subst ec_; clear en_)); have GB15 := Aside0.mk gb15; have GG15 := Aside0.mk HG15; clear gb15 gl15 HG15; (first | simp only [add_plain] at hx391_0 | skip); (first | simp only [add_plain] at hx392_0 | skip); obtain ⟨hx15_0, hf15_0⟩ := Kd.R_celln 0 HO_7.out (x9_2 : Int) p15 q15; replace p15 := eq_true p15; replace q15 := eq_true q15; obtain ⟨hy19_, hz19_⟩ := Kd.R_celln 0 HO_7.out (x9_2 : Int) (of_decide_eq_true (by first | (with_reducible assumption) | assumption)) (of_decide_eq_true (by first | (with_reducible assumption) | assumption)); have HP19 := Kd.R_putg HO_7.out (x9_2 : Int) (rd x7_2 t389)) | ((with_reducible refine gate_store (t := 3) (p := 40) rfl ?_); refine store_event (t := 3) (p := 40) (v := ?vo_w20) (w1 := (w17.setCell ⟨go15, (x9_2 : Int).toNat, none⟩ (.int .i64 (rd x7_2 t389)))) ?hg ?ho ?hn ?hr ?_; (case ho => rfl); (case hg => rfl); (case hn => rfl); (case hr => first | (go_simp; done) | (go_simp; rfl)); intro w20 hw; have hg : w17.grownBy w20 (some go15) := (by rw [hw]; exact HP19.2); have hp_ : Kd.R (Kd.int .i64) 3 w20 w.heap.size (fun _ => True) (.slice (some ⟨go15, 0, none⟩) x7_2.length co18) y393 := (by rw [hw, Ny393.out]; exact HP19.1); clear HP19; have n0_ := Aside0.mk (hp_); have n1_ := Aside0.mk (IsS147.grown (spec_l20Order.s1 HI0.out) hg (IsS147.own_ne HI0.out HO_7.out (by decide))); have n2_ := Aside0.mk ((by rw [hw]; exact below_set (HB.out) (Nat.le_trans HL.out GB15.out) : Below w0.heap.size w0 w20)); have n3_ := Aside0.mk (KeepBut.trans (spec_l20Order.s0 HK.out) (KeepBut.of_grown hg g) (Kd.R_base2 HO_7.out)); clear HO_7; clear HI0; clear HB; clear HK; have HO_7 := n0_; have HI0 := n1_; have HB := n2_; have HK := n3_; clear n0_ n1_ n2_ n3_; clear hg hw hp_; have p16 : 0 ≤ (t389 : Int) := of_decide_eq_true (by first | (with_reducible assumption) | assumption); have q16 : (t389 : Int) < ((x7_2.length : Int) : Int) := of_decide_eq_true (by first | (with_reducible assumption) | assumption); obtain ⟨hx16_0, hf16_0⟩ := Kd.R_celln 0 HO_7.out (t389 : Int) p16 q16; replace p16 := eq_true p16; replace q16 := eq_true q16; obtain ⟨hy21_, hz21_⟩ := Kd.R_celln 0 HO_7.out (t389 : Int) (of_decide_eq_true (by first | (with_reducible assumption) | assumption)) (of_decide_eq_true (by first | (with_reducible assumption) | assumption)); have HP21 := Kd.R_putg HO_7.out (t389 : Int) (rd x7_2 x9_2)) | ((with_reducible refine gate_store (t := 3) (p := 44) rfl ?_); refine store_event (t := 3) (p := 44) (v := ?vo_w22) (w1 := (w20.setCell ⟨go15, (t389 : Int).toNat, none⟩ (.int .i64 (rd x7_2 x9_2)))) ?hg ?ho ?hn ?hr ?_; (case ho => rfl); (case hg => rfl); (case hn => rfl); (case hr => first | (go_simp; done) | (go_simp; rfl)); intro w22 hw; have hg : w20.grownBy w22 (some go15) := (by rw [hw]; exact HP21.2); have hp_ : Kd.R (Kd.int .i64) 3 w22 w.heap.size (fun _ => True) (.slice (some ⟨go15, 0, none⟩) x7_2.length co18) y394 := (by rw [hw, Ny394.out]; exact HP21.1); clear HP21; have n0_ := Aside0.mk (hp_); have n1_ := Aside0.mk (IsS147.grown (spec_l20Order.s1 HI0.out) hg (IsS147.own_ne HI0.out HO_7.out (by decide))); have n2_ := Aside0.mk ((by rw [hw]; exact below_set (HB.out) (Nat.le_trans HL.out GB15.out) : Below w0.heap.size w0 w22)); have n3_ := Aside0.mk (KeepBut.trans (spec_l20Order.s0 HK.out) (KeepBut.of_grown hg g) (Kd.R_base2 HO_7.out)); clear HO_7; clear HI0; clear HB; clear HK; have HO_7 := n0_; have HI0 := n1_; have HB := n2_; have HK := n3_; clear n0_ n1_ n2_ n3_; clear hg hw hp_))
                      go_roundg k2
                      case measure => have := HK1.out; have := HK2.out; omega
                      case rel => exact ⟨(y394), (wrap64 (x9_2 + 1)), (t390), (by first | rfl | (simp; done) | (simp [*]; done) | (simp [bne_nil_, beq_nil_]; done)), H', ⟨by have := HK1.out; have := HK2.out; omega⟩, ⟨by (with_reducible repeat (first | apply Kd.R_alloc | apply Kd.R_drewN | apply Kd.R_drew)); exact HO_7.out⟩, ⟨spec_l20Order.s1 HI0.out⟩, ⟨spec_l20Order.s0 HK.out⟩, ⟨spec_l20Order.s2 HB.out HI0.out⟩⟩
                    · rw [if_neg c14] at H
                      exact absurd H (by simp)
                  · rw [if_neg c13] at H
                    exact absurd H (by simp)
                · rw [if_neg c12] at H
                  exact absurd H (by simp)
              · rw [if_neg c11] at H
                exact absurd H (by simp)
            · rw [if_neg c9] at H
              have c9b0 : decide (x9_2 < a1) = false := decide_eq_false c9
              clear c9
              replace H := Option.bind_eq_some_iff.mp H
              obtain ⟨⟨t395, t396⟩, A230, H⟩ := H
              replace H : (if t395 = true then ((some (([0, (-1), a1] : List Int) : List Int)).bind fun y397 => ((spec_l20Rd_pick.f k2 s0_0 t396 3).bind fun bt400 => (if 0 ≤ bt400.1 then (if bt400.1 < (y397.length : Int) then (if x7_2.length < 17592186044416 then (some ((x7_2 ++ [rd y397 bt400.1]), bt400.2)) else (none)) else (none)) else (none)))) else (some (x7_2, t396))) = some (r1, r2) := H
              have A23 := Aside0.mk A230
              clear A230
              by_cases c24 : t395 = true
              · subst c24
                have H1 : ((some (([0, (-1), a1] : List Int) : List Int)).bind fun y397 => ((spec_l20Rd_pick.f k2 s0_0 t396 3).bind fun bt400 => (if 0 ≤ bt400.1 then (if bt400.1 < (y397.length : Int) then (if x7_2.length < 17592186044416 then (some ((x7_2 ++ [rd y397 bt400.1]), bt400.2)) else (none)) else (none)) else (none)))) = some (r1, r2) := by rw [if_pos rfl] at H; exact H
                clear H
                have H := H1
                clear H1
                obtain ⟨y397, hy397⟩ : ∃ y_ : List Int, y_ = (([0, (-1), a1] : List Int)) := ⟨_, rfl⟩
                replace H : ((spec_l20Rd_pick.f k2 s0_0 t396 3).bind fun bt400 => (if 0 ≤ bt400.1 then (if bt400.1 < (y397.length : Int) then (if x7_2.length < 17592186044416 then (some ((x7_2 ++ [rd y397 bt400.1]), bt400.2)) else (none)) else (none)) else (none))) = some (r1, r2) := by first | (rw [hy397]; with_reducible exact H) | (have H2_ := (Option.bind_some _ _).symm.trans H; rw [hy397]; with_reducible exact H2_) | (have H2_ := (Option.bind_some _ _).symm.trans H; with_reducible exact H2_) | with_reducible exact H | (rw [hy397]; exact H) | exact H
                have Ny397 := Aside0.mk hy397
                clear hy397
                replace H := Option.bind_eq_some_iff.mp H
                obtain ⟨⟨t400, t401⟩, A250, H⟩ := H
                replace H : (if 0 ≤ t400 then (if t400 < (y397.length : Int) then (if x7_2.length < 17592186044416 then (some ((x7_2 ++ [rd y397 t400]), t401)) else (none)) else (none)) else (none)) = some (r1, r2) := H
                have A25 := Aside0.mk A250
                clear A250
                by_cases c26 : 0 ≤ t400
                · rw [if_pos c26] at H
                  have c26b0 : decide (0 ≤ t400) = true := decide_eq_true c26
                  clear c26
                  by_cases c27 : t400 < (y397.length : Int)
                  · rw [if_pos c27] at H
                    have c27b0 : decide (t400 < (y397.length : Int)) = true := decide_eq_true c27
                    clear c27
                    by_cases c28 : x7_2.length < 17592186044416
                    · rw [if_pos c28] at H
                      have LMc28 := Aside0.mk c28
                      clear c28
                      obtain ⟨y403, hy403⟩ : ∃ y_ : List Int, y_ = (x7_2 ++ [rd y397 t400]) := ⟨_, rfl⟩
                      replace H : (some (y403, t401)) = some (r1, r2) := by first | (rw [hy403]; with_reducible exact H) | (have H2_ := (Option.bind_some _ _).symm.trans H; rw [hy403]; with_reducible exact H2_) | (have H2_ := (Option.bind_some _ _).symm.trans H; with_reducible exact H2_) | with_reducible exact H | (rw [hy403]; exact H) | exact H
                      have Ny403 := Aside0.mk hy403
                      clear hy403
                      simp only [Option.some.injEq, Prod.mk.injEq] at H
                      obtain ⟨rfl, rfl⟩ := H
                      go_wp2_with (first | ((with_reducible refine gate_callee (f := 125) rfl ?_); refine gsl (some 47) rfl Try.func125 #[.pointer (some ⟨g, 0, none⟩), .int .i64 a2] rfl ?_; (with_reducible refine (spec_l20Rd_odd.calls k2 g s0_0 x1001_2 a2 true t396 w0 _ ?side1 ?side2 A23.out).mono ?_); (case side1 => exact spec_l20Order.s1 HI0.out); (case side2 => exact spec_l20Order.s2 HB.out HI0.out); rintro e w29 ⟨rfl, hi, hb, hk⟩; refine ⟨_, rfl, ?_⟩; have n0_ := Aside0.mk (Kd.R_mono (Kd.R_keep (IsS147.apart (show IsS147 w0 _ g s0_0 x1001_2 from spec_l20Order.s1 HI0.out) (kr HO_7.out) (by decide)) hk (fun _ h => h.2)) (fun _ h => h.1)); have n1_ := Aside0.mk (KeepBut.trans (spec_l20Order.s0 HK.out) hk (.inl rfl)); have n2_ := Aside0.mk (hb); have n3_ := Aside0.mk (hi); clear HO_7; clear HK; clear HB; clear HI0; have HO_7 := n0_; have HK := n1_; have HB := n2_; have HI0 := n3_; clear n0_ n1_ n2_ n3_; (try clear hb); (try clear hb2); (try clear hk); (try clear hi)) | ((with_reducible refine gate_dst (N := 50) rfl ?_); refine Kd.R_lit (Kd.int .i64) _ 3 ?hg (N := 50) ?hd (xs := ([0, (-1), a1] : List Int)) (inner := [.int .i64 0, .int .i64 (-1), .int .i64 a1]) (ok := fun _ => True) (okp := fun _ => True) ?hr ?hp (fun _ hk => hk) trivial (Below.refl _ _) (Nat.le_refl _) (by simp) ?_; (case hd => rfl); (case hg => rfl); (case hr => first | (go_simp; done) | (go_simp; rfl)); (case hp => exact (Reps.one (show Kd.M (Kd.int .i64) _ _ _ 0 [.int .i64 0] from rfl) (Reps.one (show Kd.M (Kd.int .i64) _ _ _ (-1) [.int .i64 (-1)] from rfl) (Reps.one (show Kd.M (Kd.int .i64) _ _ _ a1 [.int .i64 a1] from rfl) (Reps.none _ _))))); intro v398 w30 ho31 hb hg_ hnew_; clear hg_ hnew_; (first | rw [← Ny397.out] at ho31 | (simp only [Int.reduceToNat] at ho31; rw [← Ny397.out] at ho31)); have n0_ := Aside0.mk (Kd.R_elder' (kr HO_7.out) (Kd.R_base ho31) hb); have n1_ := Aside0.mk (Kd.R_lower (Kd.R_new' ho31 (Kd.R_lt (kr HO_7.out))) (keep_size (w := w) (g := g) (row := none) (spec_l20Order.s0 HK.out))); have n2_ := Aside0.mk (IsS147.below (spec_l20Order.s1 HI0.out) hb); have n3_ := Aside0.mk (KeepBut.trans (spec_l20Order.s0 HK.out) (KeepBut.of_below hb g none) (.inl rfl)); have n4_ := Aside0.mk (below_step (spec_l20Order.s2 HB.out HI0.out) hb); clear HO_7; clear HI0; clear HK; clear HB; have HO_7 := n0_; have HO399 := n1_; have HI0 := n2_; have HK := n3_; have HB := n4_; clear n0_ n1_ n2_ n3_ n4_; clear hb ho31) | ((with_reducible refine gate_callee (f := 78) rfl ?_); refine gsl (some 52) rfl Try.func78 #[.pointer (some ⟨g, 0, none⟩), .int .i64 3] rfl ?_; (with_reducible refine (spec_l20Rd_pick.calls k2 g s0_0 t396 3 t400 t401 w0 _ ?side1 ?side2 A25.out).mono ?_); (case side1 => exact spec_l20Order.s1 HI0.out); (case side2 => exact spec_l20Order.s2 HB.out HI0.out); rintro e w32 ⟨rfl, hi, hb, hk⟩; refine ⟨_, rfl, ?_⟩; have n0_ := Aside0.mk (Kd.R_mono (Kd.R_keep (IsS147.apart (show IsS147 w0 _ g s0_0 t396 from spec_l20Order.s1 HI0.out) (kr HO_7.out) (by decide)) hk (fun _ h => h.2)) (fun _ h => h.1)); have n1_ := Aside0.mk (Kd.R_mono (Kd.R_keep (IsS147.apart (show IsS147 w0 _ g s0_0 t396 from spec_l20Order.s1 HI0.out) (kr HO399.out) (by decide)) hk (fun _ h => h.2)) (fun _ h => h.1)); have n2_ := Aside0.mk (KeepBut.trans (spec_l20Order.s0 HK.out) hk (.inl rfl)); have n3_ := Aside0.mk (hb); have n4_ := Aside0.mk (hi); clear HO_7; clear HO399; clear HK; clear HB; clear HI0; have HO_7 := n0_; have HO399 := n1_; have HK := n2_; have HB := n3_; have HI0 := n4_; clear n0_ n1_ n2_ n3_ n4_; (try clear hb); (try clear hb2); (try clear hk); (try clear hi); obtain ⟨Ao33, co33, eo33⟩ := Kd.R_slice HO399.out; subst eo33; have p402 : 0 ≤ (t400 : Int) := of_decide_eq_true (by first | (with_reducible assumption) | assumption); have q402 : t400 < (y397.length : Int) := of_decide_eq_true (by first | (with_reducible assumption) | assumption); obtain ⟨ad402, e402, hx402_0⟩ := Kd.at_int (Kd.R_reads' HO399.out).2.2 t400 p402 q402; cases e402; replace p402 := eq_true p402; replace q402 := eq_true q402) | ((with_reducible refine gate_builtin (b := .append) (xs := #[.tmp 48, .tmp 55]) rfl ?_); at_builtin; refine Kd.R_append (Kd.int .i64) w.heap.size rfl (.tmp 48) (.tmp 55) 33 3 (.int .i64 0) 8 rfl Try.underlying33 info3 rfl (by decide) (by omega) u7 x7_2 (rd y397 t400) [.int .i64 (rd y397 t400)] (fun k_ => some k_ ≠ (.slice (some ad402) y397.length co33 : Value).ownBlock) (fun _ => False) rfl rfl ?aP (fun _ hk => hk.elim) ?aF ?aO (Below.refl _ _) ?aS ?aL ?_; (case aP => exact rfl); (case aF => exact (fun k_ hk => Kd.fresh' (Kd.R_lt (kr HO399.out)) k_ hk)); (case aO => exact (by (with_reducible repeat (first | apply Kd.R_alloc | apply Kd.R_drewN | apply Kd.R_drew)); exact Kd.R_mono HO_7.out (fun _ hk => hk.2))); (case aS => exact (keep_size (w := w) (g := g) (row := none) (spec_l20Order.s0 HK.out))); (case aL => have := LMc28.out; omega); intro v404 w34 ho hb hg hat; rw [← Ny403.out] at ho; have n0_ := Aside0.mk (IsS147.grown (spec_l20Order.s1 HI0.out) hg (IsS147.own_ne HI0.out HO_7.out (by decide))); have n1_ := Aside0.mk (Kd.R_after (ok := (fun _ => True)) (kr HO399.out) hg hat); have n2_ := Aside0.mk (below_weaken (spec_l20Order.s2 HB.out HI0.out) HL.out hb); have n3_ := Aside0.mk (KeepBut.trans (spec_l20Order.s0 HK.out) (KeepBut.of_grown hg g) (Kd.R_base2 HO_7.out)); have n4_ := Aside0.mk (ho); clear HI0; clear HO399; clear HB; clear HK; clear HO_7; have HI0 := n0_; have HO399 := n1_; have HB := n2_; have HK := n3_; have HO405 := n4_; clear n0_ n1_ n2_ n3_ n4_; clear ho hb hg hat))
                      go_ret
                      exact ⟨_, fe, by (with_reducible repeat (first | apply Kd.R_alloc | apply Kd.R_drewN | apply Kd.R_drew)); exact Kd.R_mono HO405.out (fun _ hk => trivial), spec_l20Order.s1 HI0.out, spec_l20Order.s2 HB.out HI0.out, spec_l20Order.s0 HK.out⟩
                    · rw [if_neg c28] at H
                      exact absurd H (by simp)
                  · rw [if_neg c27] at H
                    exact absurd H (by simp)
                · rw [if_neg c26] at H
                  exact absurd H (by simp)
              · replace c24 := Bool.eq_false_iff.mpr c24
                subst c24
                have H1 : (some (x7_2, t396)) = some (r1, r2) := by rw [if_neg (show ¬ (false = true) by decide)] at H; exact H
                clear H
                have H := H1
                clear H1
                simp only [Option.some.injEq, Prod.mk.injEq] at H
                obtain ⟨rfl, rfl⟩ := H
                go_wp2_with (first | ((with_reducible refine gate_callee (f := 125) rfl ?_); refine gsl (some 47) rfl Try.func125 #[.pointer (some ⟨g, 0, none⟩), .int .i64 a2] rfl ?_; (with_reducible refine (spec_l20Rd_odd.calls k2 g s0_0 x1001_2 a2 false t396 w0 _ ?side1 ?side2 A23.out).mono ?_); (case side1 => exact spec_l20Order.s1 HI0.out); (case side2 => exact spec_l20Order.s2 HB.out HI0.out); rintro e w35 ⟨rfl, hi, hb, hk⟩; refine ⟨_, rfl, ?_⟩; have n0_ := Aside0.mk (Kd.R_mono (Kd.R_keep (IsS147.apart (show IsS147 w0 _ g s0_0 x1001_2 from spec_l20Order.s1 HI0.out) (kr HO_7.out) (by decide)) hk (fun _ h => h.2)) (fun _ h => h.1)); have n1_ := Aside0.mk (KeepBut.trans (spec_l20Order.s0 HK.out) hk (.inl rfl)); have n2_ := Aside0.mk (hb); have n3_ := Aside0.mk (hi); clear HO_7; clear HK; clear HB; clear HI0; have HO_7 := n0_; have HK := n1_; have HB := n2_; have HI0 := n3_; clear n0_ n1_ n2_ n3_; (try clear hb); (try clear hb2); (try clear hk); (try clear hi)))
                go_ret
                exact ⟨_, fe, by (with_reducible repeat (first | apply Kd.R_alloc | apply Kd.R_drewN | apply Kd.R_drew)); exact HO_7.out, spec_l20Order.s1 HI0.out, spec_l20Order.s2 HB.out HI0.out, spec_l20Order.s0 HK.out⟩

/-! ### spec_DrawRealTime: function 20 -/
def spec_DrawRealTime.l0 : Nat → List (S42) → List Int → Int → Option ((List (S42)) × List Int)
  | 0, _, _, _ => none
  | k + 1, x5, x6, x7 => if x7 < (x5.length : Int) then (if x6.length < 17592186044416 then (spec_DrawRealTime.l0 k x5 (x6 ++ [x7]) (wrap64 (x7 + 1))) else (none)) else (some (x5, x6))
def spec_DrawRealTime.f (k : Nat) (l0 : List Int) : Option ((List (S42)) × List Int) := (spec_l20Open.f l0).bind fun bt406 => ((spec_l20Results.f k bt406.1 bt406.2 12).bind fun bt409 => ((spec_l20Rd_pick.f k bt406.1 bt409.2 3).bind fun bt413 => (if bt413.1 = 0 then (spec_DrawRealTime.l0 k bt409.1 (([] : List Int)) 0) else ((spec_l20Order.f k bt406.1 bt413.2 (bt409.1.length : Int) 12).bind fun bt421 => (some (bt409.1, bt421.1))))))
theorem spec_DrawRealTime.mono_l : ∀ k, (∀ y0 y1 y2, LeO (spec_DrawRealTime.l0 k y0 y1 y2) (spec_DrawRealTime.l0 (k + 1) y0 y1 y2))
  | 0 => fun _ _ _ r h => by simp [spec_DrawRealTime.l0] at h
  | k + 1 => by
    have ih0 := spec_DrawRealTime.mono_l k
    · intro y0 y1 y2
      unfold spec_DrawRealTime.l0
      repeat' first
      | (with_reducible exact ih0 _ _ _)
      | (with_reducible exact spec_l20Order.mono _ _ _ _ _)
      | (with_reducible exact spec_l20Rd_pick.mono _ _ _ _)
      | (with_reducible exact spec_l20Results.mono _ _ _ _)
      | (with_reducible exact LeO.refl _)
      | (with_reducible exact LeO.none _)
      | (with_reducible refine LeO.ite ?_ ?_)
      | (with_reducible refine LeO.bind ?_ (fun _ => ?_))
      | exact ih0 _ _ _
      | exact spec_l20Order.mono _ _ _ _ _
      | exact spec_l20Rd_pick.mono _ _ _ _
      | exact spec_l20Results.mono _ _ _ _
      | exact LeO.none _
      | refine LeO.ite ?_ ?_
      | refine LeO.bind ?_ (fun _ => ?_)
theorem spec_DrawRealTime.mono : ∀ a0 k, LeO (spec_DrawRealTime.f k a0) (spec_DrawRealTime.f (k + 1) a0) := by
  intro a0 k
  have ih0 := spec_DrawRealTime.mono_l k
  unfold spec_DrawRealTime.f
  repeat' first
      | (with_reducible exact ih0 _ _ _)
      | (with_reducible exact spec_l20Order.mono _ _ _ _ _)
      | (with_reducible exact spec_l20Rd_pick.mono _ _ _ _)
      | (with_reducible exact spec_l20Results.mono _ _ _ _)
      | (with_reducible exact LeO.refl _)
      | (with_reducible exact LeO.none _)
      | (with_reducible refine LeO.ite ?_ ?_)
      | (with_reducible refine LeO.bind ?_ (fun _ => ?_))
      | exact ih0 _ _ _
      | exact spec_l20Order.mono _ _ _ _ _
      | exact spec_l20Rd_pick.mono _ _ _ _
      | exact spec_l20Results.mono _ _ _ _
      | exact LeO.none _
      | refine LeO.ite ?_ ?_
      | refine LeO.bind ?_ (fun _ => ?_)
theorem spec_DrawRealTime.s0 {P0 Q : Prop} (B0 : P0) (h : P0 → Q := by (intro b0_; repeat (first | (with_reducible first | exact b0_ | apply IsS147.alloc | apply IsS147.drewN | apply IsS147.drew | apply IsS147.set_1) | exact b0_))) : Q := h B0
theorem spec_DrawRealTime.s1 {P0 P1 Q : Prop} (B0 : P0) (B1 : P1) (h : P0 → P1 → Q := by (intro b0_ b1_; repeat (first | (with_reducible first | exact b0_ | apply below_alloc | apply pw_below_drewN | apply below_drew1 | refine below_set ?_ (IsS147.ge b1_)) | exact b0_))) : Q := h B0 B1
set_option maxHeartbeats 8000000 in
set_option maxRecDepth 100000 in
theorem spec_DrawRealTime.calls (k : Nat) (A0 : Option Addr) (c0 : Nat) (l0 : List Int) (r1 : List (S42)) (r2 : List Int) (w : World) (hr0 : Kd.C (Kd.int .u8) w A0 l0.length l0) (hc0 : l0.length ≤ c0) (h : spec_DrawRealTime.f k l0 = some (r1, r2)) :
    Calls Try.prog 20 #[.slice A0 l0.length c0] w fun e w' => ∃ v0_ v1_ : Value, e = .returned (.tuple #[v0_, v1_]) ∧ Kd.R k42 42 w' w.heap.size (fun _ => True) v0_ r1 ∧ Kd.R (Kd.int .i64) 3 w' w.heap.size (fun _ => True) v1_ r2 ∧ Below w.heap.size w w' := by
  have HR0 := Aside0.mk hr0
  have HC0 := Aside0.mk hc0
  clear hr0 hc0
  have HB := Aside0.mk (Below.refl w.heap.size w)
  have H : ((spec_l20Open.f l0).bind fun bt406 => ((spec_l20Results.f k bt406.1 bt406.2 12).bind fun bt409 => ((spec_l20Rd_pick.f k bt406.1 bt409.2 3).bind fun bt413 => (if bt413.1 = 0 then (spec_DrawRealTime.l0 k bt409.1 (([] : List Int)) 0) else ((spec_l20Order.f k bt406.1 bt413.2 (bt409.1.length : Int) 12).bind fun bt421 => (some (bt409.1, bt421.1))))))) = some (r1, r2) := h
  clear h
  replace H := Option.bind_eq_some_iff.mp H
  obtain ⟨⟨t406, t407⟩, A20, H⟩ := H
  replace H : ((spec_l20Results.f k t406 t407 12).bind fun bt409 => ((spec_l20Rd_pick.f k t406 bt409.2 3).bind fun bt413 => (if bt413.1 = 0 then (spec_DrawRealTime.l0 k bt409.1 (([] : List Int)) 0) else ((spec_l20Order.f k t406 bt413.2 (bt409.1.length : Int) 12).bind fun bt421 => (some (bt409.1, bt421.1)))))) = some (r1, r2) := H
  have A2 := Aside0.mk A20
  clear A20
  replace H := Option.bind_eq_some_iff.mp H
  obtain ⟨⟨t409, t412⟩, A30, H⟩ := H
  replace H : ((spec_l20Rd_pick.f k t406 t412 3).bind fun bt413 => (if bt413.1 = 0 then (spec_DrawRealTime.l0 k t409 (([] : List Int)) 0) else ((spec_l20Order.f k t406 bt413.2 (t409.length : Int) 12).bind fun bt421 => (some (t409, bt421.1))))) = some (r1, r2) := H
  have A3 := Aside0.mk A30
  clear A30
  replace H := Option.bind_eq_some_iff.mp H
  obtain ⟨⟨t413, t414⟩, A40, H⟩ := H
  replace H : (if t413 = 0 then (spec_DrawRealTime.l0 k t409 (([] : List Int)) 0) else ((spec_l20Order.f k t406 t414 (t409.length : Int) 12).bind fun bt421 => (some (t409, bt421.1)))) = some (r1, r2) := H
  have A4 := Aside0.mk A40
  clear A40
  by_cases c5 : t413 = 0
  · rw [if_pos c5] at H
    have c5b0 : (t413 == 0) = true := beq_iff_eq.mpr c5
    have c5b1 : (t413 != 0) = false := bne_eq_false_iff_eq.mpr c5
    clear c5
    obtain ⟨y415, hy415⟩ : ∃ y_ : List Int, y_ = (([] : List Int)) := ⟨_, rfl⟩
    replace H : (spec_DrawRealTime.l0 k t409 y415 0) = some (r1, r2) := by first | (rw [hy415]; with_reducible exact H) | (have H2_ := (Option.bind_some _ _).symm.trans H; rw [hy415]; with_reducible exact H2_) | (have H2_ := (Option.bind_some _ _).symm.trans H; with_reducible exact H2_) | with_reducible exact H | (rw [hy415]; exact H) | exact H
    have Ny415 := Aside0.mk hy415
    clear hy415
    have H' := Aside0.mk H
    clear H
    go_enter Try.func20, Try.ntmps20
    go_wp2_with (first | ((with_reducible refine gate_callee (f := 71) rfl ?_); refine gsl (some 9) rfl Try.func71 #[.slice A0 l0.length c0] rfl ?_; (with_reducible refine (spec_l20Open.calls _ _ l0 t406 t407 w _ ?side1 ?side2 ?side3 A2.out).mono ?_); (case side1 => repeat (first | (with_reducible first | exact HB.out | apply below_alloc | apply pw_below_drewN | apply below_drew1) | exact HB.out)); (case side2 => exact HR0.out); (case side3 => exact HC0.out); rintro e w6 ⟨g408, rfl, hi, hb, hb2⟩; refine ⟨_, rfl, ?_⟩; have n0_ := Aside0.mk (hb); have n1_ := Aside0.mk (hi); clear HB; have HB := n0_; have HI408 := n1_; clear n0_ n1_; (try clear hb); (try clear hb2); (try clear hk); (try clear hi)) | ((with_reducible refine gate_callee (f := 77) rfl ?_); refine gsl (some 11) rfl Try.func77 #[.pointer (some ⟨g408, 0, none⟩), .int .i64 12] rfl ?_; (with_reducible refine (spec_l20Results.calls k g408 t406 t407 12 t409 t412 w _ ?side1 ?side2 A3.out).mono ?_); (case side1 => exact spec_DrawRealTime.s0 HI408.out); (case side2 => exact spec_DrawRealTime.s1 HB.out HI408.out); rintro e w7 ⟨v410, rfl, ho0, hi, hb, hk⟩; refine ⟨_, rfl, ?_⟩; have n0_ := Aside0.mk (Kd.R_lower ho0 (below_size (spec_DrawRealTime.s1 HB.out HI408.out))); have n1_ := Aside0.mk (hb); have n2_ := Aside0.mk (hi); clear HB; clear HI408; have HO411 := n0_; have HB := n1_; have HI408 := n2_; clear n0_ n1_ n2_; (try clear hb); (try clear hb2); (try clear hk); (try clear hi); (try clear ho0)) | ((with_reducible refine gate_callee (f := 78) rfl ?_); refine gsl (some 13) rfl Try.func78 #[.pointer (some ⟨g408, 0, none⟩), .int .i64 3] rfl ?_; (with_reducible refine (spec_l20Rd_pick.calls k g408 t406 t412 3 t413 t414 w _ ?side1 ?side2 A4.out).mono ?_); (case side1 => exact spec_DrawRealTime.s0 HI408.out); (case side2 => exact spec_DrawRealTime.s1 HB.out HI408.out); rintro e w8 ⟨rfl, hi, hb, hk⟩; refine ⟨_, rfl, ?_⟩; have n0_ := Aside0.mk (Kd.R_mono (Kd.R_keep (IsS147.apart (show IsS147 w _ g408 t406 t412 from spec_DrawRealTime.s0 HI408.out) (kr HO411.out) (by decide)) hk (fun _ h => h.2)) (fun _ h => h.1)); have n1_ := Aside0.mk (hb); have n2_ := Aside0.mk (hi); clear HO411; clear HB; clear HI408; have HO411 := n0_; have HB := n1_; have HI408 := n2_; clear n0_ n1_ n2_; (try clear hb); (try clear hb2); (try clear hk); (try clear hi)) | ((with_reducible refine gate_dst (N := 15) rfl ?_); refine Kd.R_lit (Kd.int .i64) _ 3 ?hg (N := 15) ?hd (xs := ([] : List Int)) (inner := []) (ok := fun _ => True) (okp := fun _ => True) ?hr ?hp (fun _ hk => hk) trivial (Below.refl _ _) (Nat.le_refl _) (by simp) ?_; (case hd => rfl); (case hg => rfl); (case hr => first | (go_simp; done) | (go_simp; rfl)); (case hp => exact (Reps.none _ _)); intro v416 w9 ho10 hb hg_ hnew_; clear hg_ hnew_; (first | rw [← Ny415.out] at ho10 | (simp only [Int.reduceToNat] at ho10; rw [← Ny415.out] at ho10)); have n0_ := Aside0.mk (Kd.R_below (kr HO411.out) hb); have n1_ := Aside0.mk (Kd.R_lower ho10 (below_size (spec_DrawRealTime.s1 HB.out HI408.out))); have n2_ := Aside0.mk (IsS147.below (spec_DrawRealTime.s0 HI408.out) hb); have n3_ := Aside0.mk (below_step (spec_DrawRealTime.s1 HB.out HI408.out) hb); clear HO411; clear HI408; clear HB; have HO411 := n0_; have HO417 := n1_; have HI408 := n2_; have HB := n3_; clear n0_ n1_ n2_ n3_; clear hb ho10))
    go_loopg [6, 7] k (fun kq v6 v7 w' => ∃ (x6_1 : List Int) (x7_1 : Int), v7 = .int .i64 x7_1 ∧ Aside0 (spec_DrawRealTime.l0 kq t409 x6_1 x7_1 = some (r1, r2)) ∧ Aside0 (kq ≤ k) ∧ Aside0 (Kd.R k42 42 w' w.heap.size (fun _ => True) v410 t409) ∧ Aside0 (Kd.R (Kd.int .i64) 3 w' w.heap.size (fun _ => True) v6 x6_1) ∧ Aside0 (Below w.heap.size w w'))
    case atStart => exact ⟨(y415), (0), (by first | rfl | (simp; done) | (simp [*]; done) | (simp [bne_nil_, beq_nil_]; done)), H', ⟨Nat.le_refl _⟩, ⟨by (with_reducible repeat (first | apply Kd.R_alloc | apply Kd.R_drewN | apply Kd.R_drew)); exact HO411.out⟩, ⟨by (with_reducible repeat (first | apply Kd.R_alloc | apply Kd.R_drewN | apply Kd.R_drew)); exact HO417.out⟩, ⟨spec_DrawRealTime.s1 HB.out HI408.out⟩⟩
    case round =>
      clear H'
      try clear c2
      try clear p2
      try clear c5
      try clear c5b0
      try clear c5b1
      try clear c7
      obtain ⟨x6_1, x7_1, rfl, HA, HK1, HO_5, HO_6, HB⟩ := hrel
      cases gk with
      | zero => exact absurd HA.out (by simp [spec_DrawRealTime.l0])
      | succ k1 =>
        have H := HA.out
        clear HA
        simp only [spec_DrawRealTime.l0] at H
        by_cases c11 : x7_1 < (t409.length : Int)
        · rw [if_pos c11] at H
          have c11b0 : decide (x7_1 < (t409.length : Int)) = true := decide_eq_true c11
          clear c11
          by_cases c12 : x6_1.length < 17592186044416
          · rw [if_pos c12] at H
            have LMc12 := Aside0.mk c12
            clear c12
            obtain ⟨y418, hy418⟩ : ∃ y_ : List Int, y_ = (x6_1 ++ [x7_1]) := ⟨_, rfl⟩
            replace H : (spec_DrawRealTime.l0 k1 t409 y418 (wrap64 (x7_1 + 1))) = some (r1, r2) := by first | (rw [hy418]; with_reducible exact H) | (have H2_ := (Option.bind_some _ _).symm.trans H; rw [hy418]; with_reducible exact H2_) | (have H2_ := (Option.bind_some _ _).symm.trans H; with_reducible exact H2_) | with_reducible exact H | (rw [hy418]; exact H) | exact H
            have Ny418 := Aside0.mk hy418
            clear hy418
            have H' := Aside0.mk H
            clear H
            obtain ⟨Ao13, co13, eo13⟩ := Kd.R_slice HO_5.out
            subst eo13
            go_wp2_with (first | ((with_reducible refine gate_builtin (b := .append) (xs := #[.tmp 22, .tmp 24]) rfl ?_); at_builtin; refine Kd.R_append (Kd.int .i64) (w0 := w) w.heap.size rfl (.tmp 22) (.tmp 24) 33 3 (.int .i64 0) 8 rfl Try.underlying33 info3 rfl (by decide) (by omega) u6 x6_1 x7_1 [.int .i64 x7_1] (fun _ => True) (fun _ => False) rfl rfl ?aP (fun _ hk => hk.elim) ?aF ?aO ?aB ?aS ?aL ?_; (case aP => exact rfl); (case aB => exact (bp HB.out)); (case aF => exact (fun _ _ => trivial)); (case aO => exact (kr HO_6.out)); (case aS => exact (below_size (bp HB.out))); (case aL => have := LMc12.out; omega); intro v419 w14 ho hb hg hat; rw [← Ny418.out] at ho; have n0_ := Aside0.mk (Kd.R_over' (kr HO_5.out) (Kd.R_typed (kr HO_6.out)) (by decide) hg); have n1_ := Aside0.mk (hb); have n2_ := Aside0.mk (ho); clear HO_5; clear HB; clear HO_6; have HO_5 := n0_; have HB := n1_; have HO420 := n2_; clear n0_ n1_ n2_; clear ho hb hg hat))
            go_roundg k1
            case measure => have := HK1.out; omega
            case rel => exact ⟨(y418), (wrap64 (x7_1 + 1)), (by first | rfl | (simp; done) | (simp [*]; done) | (simp [bne_nil_, beq_nil_]; done)), H', ⟨by have := HK1.out; omega⟩, ⟨by (with_reducible repeat (first | apply Kd.R_alloc | apply Kd.R_drewN | apply Kd.R_drew)); exact HO_5.out⟩, ⟨by (with_reducible repeat (first | apply Kd.R_alloc | apply Kd.R_drewN | apply Kd.R_drew)); exact HO420.out⟩, ⟨bp HB.out⟩⟩
          · rw [if_neg c12] at H
            exact absurd H (by simp)
        · rw [if_neg c11] at H
          have c11b0 : decide (x7_1 < (t409.length : Int)) = false := decide_eq_false c11
          clear c11
          simp only [Option.some.injEq, Prod.mk.injEq] at H
          obtain ⟨rfl, rfl⟩ := H
          obtain ⟨Ao15, co15, eo15⟩ := Kd.R_slice HO_5.out
          subst eo15
          go_wp2
          go_ret2
          exact ⟨_, _, fe, by (with_reducible repeat (first | apply Kd.R_alloc | apply Kd.R_drewN | apply Kd.R_drew)); exact HO_5.out, by (with_reducible repeat (first | apply Kd.R_alloc | apply Kd.R_drewN | apply Kd.R_drew)); exact HO_6.out, bp HB.out⟩
  · rw [if_neg c5] at H
    have c5b0 : (t413 == 0) = false := beq_eq_false_iff_ne.mpr c5
    have c5b1 : (t413 != 0) = true := bne_iff_ne.mpr c5
    replace H := Option.bind_eq_some_iff.mp H
    obtain ⟨⟨t421, t424⟩, A160, H⟩ := H
    replace H : (some (t409, t421)) = some (r1, r2) := H
    have A16 := Aside0.mk A160
    clear A160
    simp only [Option.some.injEq, Prod.mk.injEq] at H
    obtain ⟨rfl, rfl⟩ := H
    go_enter Try.func20, Try.ntmps20
    go_wp2_with (first | ((with_reducible refine gate_callee (f := 71) rfl ?_); refine gsl (some 9) rfl Try.func71 #[.slice A0 l0.length c0] rfl ?_; (with_reducible refine (spec_l20Open.calls _ _ l0 t406 t407 w _ ?side1 ?side2 ?side3 A2.out).mono ?_); (case side1 => repeat (first | (with_reducible first | exact HB.out | apply below_alloc | apply pw_below_drewN | apply below_drew1) | exact HB.out)); (case side2 => exact HR0.out); (case side3 => exact HC0.out); rintro e w17 ⟨g408, rfl, hi, hb, hb2⟩; refine ⟨_, rfl, ?_⟩; have n0_ := Aside0.mk (hb); have n1_ := Aside0.mk (hi); clear HB; have HB := n0_; have HI408 := n1_; clear n0_ n1_; (try clear hb); (try clear hb2); (try clear hk); (try clear hi)) | ((with_reducible refine gate_callee (f := 77) rfl ?_); refine gsl (some 11) rfl Try.func77 #[.pointer (some ⟨g408, 0, none⟩), .int .i64 12] rfl ?_; (with_reducible refine (spec_l20Results.calls k g408 t406 t407 12 t409 t412 w _ ?side1 ?side2 A3.out).mono ?_); (case side1 => exact spec_DrawRealTime.s0 HI408.out); (case side2 => exact spec_DrawRealTime.s1 HB.out HI408.out); rintro e w18 ⟨v410, rfl, ho0, hi, hb, hk⟩; refine ⟨_, rfl, ?_⟩; have n0_ := Aside0.mk (Kd.R_lower ho0 (below_size (spec_DrawRealTime.s1 HB.out HI408.out))); have n1_ := Aside0.mk (hb); have n2_ := Aside0.mk (hi); clear HB; clear HI408; have HO411 := n0_; have HB := n1_; have HI408 := n2_; clear n0_ n1_ n2_; (try clear hb); (try clear hb2); (try clear hk); (try clear hi); (try clear ho0)) | ((with_reducible refine gate_callee (f := 78) rfl ?_); refine gsl (some 13) rfl Try.func78 #[.pointer (some ⟨g408, 0, none⟩), .int .i64 3] rfl ?_; (with_reducible refine (spec_l20Rd_pick.calls k g408 t406 t412 3 t413 t414 w _ ?side1 ?side2 A4.out).mono ?_); (case side1 => exact spec_DrawRealTime.s0 HI408.out); (case side2 => exact spec_DrawRealTime.s1 HB.out HI408.out); rintro e w19 ⟨rfl, hi, hb, hk⟩; refine ⟨_, rfl, ?_⟩; have n0_ := Aside0.mk (Kd.R_mono (Kd.R_keep (IsS147.apart (show IsS147 w _ g408 t406 t412 from spec_DrawRealTime.s0 HI408.out) (kr HO411.out) (by decide)) hk (fun _ h => h.2)) (fun _ h => h.1)); have n1_ := Aside0.mk (hb); have n2_ := Aside0.mk (hi); clear HO411; clear HB; clear HI408; have HO411 := n0_; have HB := n1_; have HI408 := n2_; clear n0_ n1_ n2_; (try clear hb); (try clear hb2); (try clear hk); (try clear hi); obtain ⟨Ao20, co20, eo20⟩ := Kd.R_slice HO411.out; subst eo20) | ((with_reducible refine gate_callee (f := 79) rfl ?_); refine gsl (some 32) rfl Try.func79 #[.pointer (some ⟨g408, 0, none⟩), .int .i64 (t409.length : Int), .int .i64 12] rfl ?_; (with_reducible refine (spec_l20Order.calls k g408 t406 t414 (t409.length : Int) 12 t421 t424 w _ ?side1 ?side2 A16.out).mono ?_); (case side1 => exact spec_DrawRealTime.s0 HI408.out); (case side2 => exact spec_DrawRealTime.s1 HB.out HI408.out); rintro e w21 ⟨v422, rfl, ho0, hi, hb, hk⟩; refine ⟨_, rfl, ?_⟩; have n0_ := Aside0.mk (Kd.R_mono (Kd.R_keep (IsS147.apart (show IsS147 w _ g408 t406 t414 from spec_DrawRealTime.s0 HI408.out) (kr HO411.out) (by decide)) hk (fun _ h => h.2)) (fun _ h => h.1)); have n1_ := Aside0.mk (Kd.R_lower ho0 (below_size (spec_DrawRealTime.s1 HB.out HI408.out))); have n2_ := Aside0.mk (hb); have n3_ := Aside0.mk (hi); clear HO411; clear HB; clear HI408; have HO411 := n0_; have HO423 := n1_; have HB := n2_; have HI408 := n3_; clear n0_ n1_ n2_ n3_; (try clear hb); (try clear hb2); (try clear hk); (try clear hi); (try clear ho0)))
    go_ret2
    exact ⟨_, _, fe, by (with_reducible repeat (first | apply Kd.R_alloc | apply Kd.R_drewN | apply Kd.R_drew)); exact HO411.out, by (with_reducible repeat (first | apply Kd.R_alloc | apply Kd.R_drewN | apply Kd.R_drew)); exact HO423.out, spec_DrawRealTime.s1 HB.out HI408.out⟩

/-! ### slices_Index_int_int: function 134 -/
def slices_Index_int_int.l0 : Nat → List Int → Int → Int → Int → Option (Int)
  | 0, _, _, _, _ => none
  | k + 1, x0, x1, x7, x8 => if x8 < x7 then (if 0 ≤ x8 then (if x8 < (x0.length : Int) then (if x1 = (rd x0 x8) then (some x8) else (slices_Index_int_int.l0 k x0 x1 x7 (wrap64 (x8 + 1)))) else (none)) else (none)) else (some (-1))
def slices_Index_int_int.f (k : Nat) (l0 : List Int) (a1 : Int) : Option (Int) := slices_Index_int_int.l0 k l0 a1 (l0.length : Int) 0
theorem slices_Index_int_int.mono_l : ∀ k, (∀ y0 y1 y2 y3, LeO (slices_Index_int_int.l0 k y0 y1 y2 y3) (slices_Index_int_int.l0 (k + 1) y0 y1 y2 y3))
  | 0 => fun _ _ _ _ r h => by simp [slices_Index_int_int.l0] at h
  | k + 1 => by
    have ih0 := slices_Index_int_int.mono_l k
    · intro y0 y1 y2 y3
      unfold slices_Index_int_int.l0
      repeat' first
      | (with_reducible exact ih0 _ _ _ _)
      | (with_reducible exact LeO.refl _)
      | (with_reducible exact LeO.none _)
      | (with_reducible refine LeO.ite ?_ ?_)
      | (with_reducible refine LeO.bind ?_ (fun _ => ?_))
      | exact ih0 _ _ _ _
      | exact LeO.none _
      | refine LeO.ite ?_ ?_
      | refine LeO.bind ?_ (fun _ => ?_)
theorem slices_Index_int_int.mono : ∀ a0 a1 k, LeO (slices_Index_int_int.f k a0 a1) (slices_Index_int_int.f (k + 1) a0 a1) := by
  intro a0 a1 k
  have ih0 := slices_Index_int_int.mono_l k
  unfold slices_Index_int_int.f
  repeat' first
      | (with_reducible exact ih0 _ _ _ _)
      | (with_reducible exact LeO.refl _)
      | (with_reducible exact LeO.none _)
      | (with_reducible refine LeO.ite ?_ ?_)
      | (with_reducible refine LeO.bind ?_ (fun _ => ?_))
      | exact ih0 _ _ _ _
      | exact LeO.none _
      | refine LeO.ite ?_ ?_
      | refine LeO.bind ?_ (fun _ => ?_)
set_option maxHeartbeats 8000000 in
set_option maxRecDepth 100000 in
theorem slices_Index_int_int.calls (k : Nat) (A0 : Option Addr) (c0 : Nat) (l0 : List Int) (a1 : Int) (r : Int) (w : World) (hr0 : Kd.C (Kd.int .i64) w A0 l0.length l0) (hc0 : l0.length ≤ c0) (h : slices_Index_int_int.f k l0 a1 = some r) :
    Calls Try.prog 134 #[.slice A0 l0.length c0, .int .i64 a1] w fun e w' => e = .returned (.int .i64 r) ∧ Drawn0 w w' := by
  have HR0 := Aside0.mk hr0
  have HC0 := Aside0.mk hc0
  clear hr0 hc0
  have H : (slices_Index_int_int.l0 k l0 a1 (l0.length : Int) 0) = some r := h
  clear h
  have H' := Aside0.mk H
  clear H
  go_enter Try.func134, Try.ntmps134
  go_wp2
  go_loopg [8] k (fun kq v8 w' => ∃ (x8_1 : Int), v8 = .int .i64 x8_1 ∧ Aside0 (slices_Index_int_int.l0 kq l0 a1 (l0.length : Int) x8_1 = some r) ∧ Aside0 (kq ≤ k) ∧ Drawn0 w w')
  case atStart => exact ⟨(0), (by first | rfl | (simp; done) | (simp [*]; done) | (simp [bne_nil_, beq_nil_]; done)), H', ⟨Nat.le_refl _⟩, by repeat (first | exact Drawn0.refl _ | apply Drawn0.step)⟩
  case round =>
    clear H'
    try clear c1
    try clear p2
    obtain ⟨x8_1, rfl, HA, HK1, ⟨m1, rfl⟩⟩ := hrel
    cases gk with
    | zero => exact absurd HA.out (by simp [slices_Index_int_int.l0])
    | succ k1 =>
      have H := HA.out
      clear HA
      simp only [slices_Index_int_int.l0] at H
      by_cases c3 : x8_1 < (l0.length : Int)
      · rw [if_pos c3] at H
        have c3b0 : decide (x8_1 < (l0.length : Int)) = true := decide_eq_true c3
        clear c3
        by_cases c4 : 0 ≤ x8_1
        · rw [if_pos c4] at H
          have c4b0 : decide (0 ≤ x8_1) = true := decide_eq_true c4
          clear c4
          by_cases c5 : x8_1 < (l0.length : Int)
          · rw [if_pos c5] at H
            have c5b0 : decide (x8_1 < (l0.length : Int)) = true := decide_eq_true c5
            clear c5
            by_cases c6 : a1 = (rd l0 x8_1)
            · rw [if_pos c6] at H
              have c6b0 : (a1 == (rd l0 x8_1)) = true := beq_iff_eq.mpr c6
              have c6b1 : (a1 != (rd l0 x8_1)) = false := bne_eq_false_iff_eq.mpr c6
              clear c6
              obtain rfl := Option.some.inj H
              have p425 : 0 ≤ (x8_1 : Int) := of_decide_eq_true (by first | (with_reducible assumption) | assumption)
              have q425 : x8_1 < (l0.length : Int) := of_decide_eq_true (by first | (with_reducible assumption) | assumption)
              obtain ⟨ad425, e425, hx425_0⟩ := Kd.at_int HR0.out x8_1 p425 q425
              cases e425
              replace p425 := eq_true p425
              replace q425 := eq_true q425
              go_wp2
              go_ret
              exact ⟨by first | rfl | (simp; done) | (simp [*]; done) | (simp [bne_nil_, beq_nil_]; done), by repeat (first | exact Drawn0.refl _ | apply Drawn0.step)⟩
            · rw [if_neg c6] at H
              have c6b0 : (a1 == (rd l0 x8_1)) = false := beq_eq_false_iff_ne.mpr c6
              have c6b1 : (a1 != (rd l0 x8_1)) = true := bne_iff_ne.mpr c6
              have H' := Aside0.mk H
              clear H
              have p425 : 0 ≤ (x8_1 : Int) := of_decide_eq_true (by first | (with_reducible assumption) | assumption)
              have q425 : x8_1 < (l0.length : Int) := of_decide_eq_true (by first | (with_reducible assumption) | assumption)
              obtain ⟨ad425, e425, hx425_0⟩ := Kd.at_int HR0.out x8_1 p425 q425
              cases e425
              replace p425 := eq_true p425
              replace q425 := eq_true q425
              go_wp2
              go_roundg k1
              case measure => have := HK1.out; omega
              case rel => exact ⟨(wrap64 (x8_1 + 1)), (by first | rfl | (simp; done) | (simp [*]; done) | (simp [bne_nil_, beq_nil_]; done)), H', ⟨by have := HK1.out; omega⟩, by repeat (first | exact Drawn0.refl _ | apply Drawn0.step)⟩
          · rw [if_neg c5] at H
            exact absurd H (by simp)
        · rw [if_neg c4] at H
          exact absurd H (by simp)
      · rw [if_neg c3] at H
        have c3b0 : decide (x8_1 < (l0.length : Int)) = false := decide_eq_false c3
        clear c3
        obtain rfl := Option.some.inj H
        go_wp2
        go_ret
        exact ⟨by first | rfl | (simp; done) | (simp [*]; done) | (simp [bne_nil_, beq_nil_]; done), by repeat (first | exact Drawn0.refl _ | apply Drawn0.step)⟩

/-! ### slices_Contains_int_int: function 83 -/
def slices_Contains_int_int.f (k : Nat) (l0 : List Int) (a1 : Int) : Option (Bool) := (slices_Index_int_int.f k l0 a1).bind fun t426 => (some (decide (t426 ≥ 0)))
theorem slices_Contains_int_int.mono : ∀ a0 a1 k, LeO (slices_Contains_int_int.f k a0 a1) (slices_Contains_int_int.f (k + 1) a0 a1) := by
  intro a0 a1 k
  unfold slices_Contains_int_int.f
  repeat' first
      | (with_reducible exact slices_Index_int_int.mono _ _ _)
      | (with_reducible exact LeO.refl _)
      | (with_reducible exact LeO.none _)
      | (with_reducible refine LeO.ite ?_ ?_)
      | (with_reducible refine LeO.bind ?_ (fun _ => ?_))
      | exact slices_Index_int_int.mono _ _ _
      | exact LeO.none _
      | refine LeO.ite ?_ ?_
      | refine LeO.bind ?_ (fun _ => ?_)
set_option maxHeartbeats 8000000 in
set_option maxRecDepth 100000 in
theorem slices_Contains_int_int.calls (k : Nat) (A0 : Option Addr) (c0 : Nat) (l0 : List Int) (a1 : Int) (r : Bool) (w : World) (hr0 : Kd.C (Kd.int .i64) w A0 l0.length l0) (hc0 : l0.length ≤ c0) (h : slices_Contains_int_int.f k l0 a1 = some r) :
    Calls Try.prog 83 #[.slice A0 l0.length c0, .int .i64 a1] w fun e w' => e = .returned (.bool r) ∧ Drawn0 w w' := by
  have HR0 := Aside0.mk hr0
  have HC0 := Aside0.mk hc0
  clear hr0 hc0
  have H : ((slices_Index_int_int.f k l0 a1).bind fun t426 => (some (decide (t426 ≥ 0)))) = some r := h
  clear h
  replace H := Option.bind_eq_some_iff.mp H
  obtain ⟨t426, A30, H⟩ := H
  replace H : (some (decide (t426 ≥ 0))) = some r := H
  have A3 := Aside0.mk A30
  clear A30
  obtain rfl := Option.some.inj H
  go_enter Try.func83, Try.ntmps83
  go_wp2_with (first | ((with_reducible refine gate_callee (f := 134) rfl ?_); refine gsl (some 7) rfl Try.func134 #[.slice A0 l0.length c0, .int .i64 a1] rfl ?_; (with_reducible refine (slices_Index_int_int.calls k _ _ l0 a1 t426 _ ?side1 ?side2 A3.out).mono ?_); (case side1 => exact cc HR0.out); (case side2 => exact HC0.out); rintro e w' ⟨rfl, ⟨nd, rfl⟩⟩; refine ⟨_, rfl, ?_⟩))
  go_ret
  exact ⟨by first | rfl | (simp; done) | (simp [*]; done) | (simp [bne_nil_, beq_nil_]; done), by repeat (first | exact Drawn0.refl _ | apply Drawn0.step)⟩

/-! ### impl_OrderValid: function 23 -/
mutual
def impl_OrderValid.j0 : Nat → Int → List Int → Bool → Option (Bool)
  | 0, _, _, _ => none
  | k + 1, x0, x1, x15 => if x15 = true then (some false) else (impl_OrderValid.l0 k x0 x1 x1 (x1.length : Int) 0)
def impl_OrderValid.l0 : Nat → Int → List Int → List Int → Int → Int → Option (Bool)
  | 0, _, _, _, _, _ => none
  | k + 1, x0, x1, x16, x17, x18 => if x18 < x17 then (if 0 ≤ x18 then (if x18 < (x16.length : Int) then (if (rd x16 x18) < 0 then (some false) else (if (rd x16 x18) ≥ x0 then (some false) else (if x18 ≤ (x1.length : Int) then ((slices_Contains_int_int.f k (x1.take (x18 : Int).toNat) (rd x16 x18)).bind fun t432 => (if t432 = true then (some false) else (impl_OrderValid.l0 k x0 x1 x16 x17 (wrap64 (x18 + 1))))) else (none)))) else (none)) else (none)) else (some true)
end
def impl_OrderValid.f (k : Nat) (a0 : Int) (l1 : List Int) : Option (Bool) := if (l1.length : Int) > 5 then (impl_OrderValid.j0 k a0 l1 true) else (impl_OrderValid.j0 k a0 l1 ((l1.length : Int) != a0))
theorem impl_OrderValid.mono_l : ∀ k, (∀ y0 y1 y2, LeO (impl_OrderValid.j0 k y0 y1 y2) (impl_OrderValid.j0 (k + 1) y0 y1 y2)) ∧ (∀ y0 y1 y2 y3 y4, LeO (impl_OrderValid.l0 k y0 y1 y2 y3 y4) (impl_OrderValid.l0 (k + 1) y0 y1 y2 y3 y4))
  | 0 => ⟨fun _ _ _ r h => by simp [impl_OrderValid.j0] at h, fun _ _ _ _ _ r h => by simp [impl_OrderValid.l0] at h⟩
  | k + 1 => by
    obtain ⟨ih0, ih1⟩ := impl_OrderValid.mono_l k
    refine ⟨?_, ?_⟩
    · intro y0 y1 y2
      unfold impl_OrderValid.j0
      repeat' first
      | (with_reducible exact ih0 _ _ _)
      | (with_reducible exact ih1 _ _ _ _ _)
      | (with_reducible exact slices_Contains_int_int.mono _ _ _)
      | (with_reducible exact LeO.refl _)
      | (with_reducible exact LeO.none _)
      | (with_reducible refine LeO.ite ?_ ?_)
      | (with_reducible refine LeO.bind ?_ (fun _ => ?_))
      | exact ih0 _ _ _
      | exact ih1 _ _ _ _ _
      | exact slices_Contains_int_int.mono _ _ _
      | exact LeO.none _
      | refine LeO.ite ?_ ?_
      | refine LeO.bind ?_ (fun _ => ?_)
    · intro y0 y1 y2 y3 y4
      unfold impl_OrderValid.l0
      repeat' first
      | (with_reducible exact ih0 _ _ _)
      | (with_reducible exact ih1 _ _ _ _ _)
      | (with_reducible exact slices_Contains_int_int.mono _ _ _)
      | (with_reducible exact LeO.refl _)
      | (with_reducible exact LeO.none _)
      | (with_reducible refine LeO.ite ?_ ?_)
      | (with_reducible refine LeO.bind ?_ (fun _ => ?_))
      | exact ih0 _ _ _
      | exact ih1 _ _ _ _ _
      | exact slices_Contains_int_int.mono _ _ _
      | exact LeO.none _
      | refine LeO.ite ?_ ?_
      | refine LeO.bind ?_ (fun _ => ?_)
theorem impl_OrderValid.mono : ∀ a0 a1 k, LeO (impl_OrderValid.f k a0 a1) (impl_OrderValid.f (k + 1) a0 a1) := by
  intro a0 a1 k
  obtain ⟨ih0, ih1⟩ := impl_OrderValid.mono_l k
  unfold impl_OrderValid.f
  repeat' first
      | (with_reducible exact ih0 _ _ _)
      | (with_reducible exact ih1 _ _ _ _ _)
      | (with_reducible exact slices_Contains_int_int.mono _ _ _)
      | (with_reducible exact LeO.refl _)
      | (with_reducible exact LeO.none _)
      | (with_reducible refine LeO.ite ?_ ?_)
      | (with_reducible refine LeO.bind ?_ (fun _ => ?_))
      | exact ih0 _ _ _
      | exact ih1 _ _ _ _ _
      | exact slices_Contains_int_int.mono _ _ _
      | exact LeO.none _
      | refine LeO.ite ?_ ?_
      | refine LeO.bind ?_ (fun _ => ?_)
set_option maxHeartbeats 8000000 in
set_option maxRecDepth 100000 in
theorem impl_OrderValid.calls (k : Nat) (a0 : Int) (A1 : Option Addr) (c1 : Nat) (l1 : List Int) (r : Bool) (w : World) (hr1 : Kd.C (Kd.int .i64) w A1 l1.length l1) (hc1 : l1.length ≤ c1) (h : impl_OrderValid.f k a0 l1 = some r) :
    Calls Try.prog 23 #[.int .i64 a0, .slice A1 l1.length c1] w fun e w' => e = .returned (.bool r) ∧ Drawn0 w w' := by
  have HR1 := Aside0.mk hr1
  have HC1 := Aside0.mk hc1
  clear hr1 hc1
  have H : (if (l1.length : Int) > 5 then (impl_OrderValid.j0 k a0 l1 true) else (impl_OrderValid.j0 k a0 l1 ((l1.length : Int) != a0))) = some r := h
  clear h
  have HC3 := Aside0.mk H
  clear H
  go_enter Try.func23, Try.ntmps23
  go_upto_region 1 with (fail)
  go_cut [15] (fun v15 wc => ∃ (kq : Nat) (x15_2 : Bool), v15 = .bool x15_2 ∧ Aside0 (impl_OrderValid.j0 kq a0 l1 x15_2 = some r) ∧ Aside0 (kq ≤ k) ∧ Drawn0 w wc)
  case first =>
    have H := HC3.out
    clear HC3
    by_cases c4 : (l1.length : Int) > 5
    · rw [if_pos c4] at H
      have c4b0 : decide (5 < (l1.length : Int)) = true := decide_eq_true c4
      have c4b1 : decide (5 < l1.length) = true := decide_eq_true (by omega)
      clear c4
      (first | rw [c4b0] | (simp only [i64_w, i32_w]; rw [c4b0]) | skip)
      have H' := Aside0.mk H
      clear H
      go_wp2
      go_meet
      case rel => exact ⟨_, (true), (by first | rfl | (simp; done) | (simp [*]; done) | (simp [bne_nil_, beq_nil_]; done)), H', ⟨by first | omega | exact Nat.le_refl _⟩, by repeat (first | exact Drawn0.refl _ | apply Drawn0.step)⟩
    · rw [if_neg c4] at H
      have c4b0 : decide (5 < (l1.length : Int)) = false := decide_eq_false c4
      have c4b1 : decide (5 < l1.length) = false := decide_eq_false (by omega)
      clear c4
      (first | rw [c4b0] | (simp only [i64_w, i32_w]; rw [c4b0]) | skip)
      have H' := Aside0.mk H
      clear H
      go_wp2
      go_meet
      case rel => exact ⟨_, (((l1.length : Int) != a0)), (by first | rfl | (simp; done) | (simp [*]; done) | (simp [bne_nil_, beq_nil_]; done)), H', ⟨by first | omega | exact Nat.le_refl _⟩, by repeat (first | exact Drawn0.refl _ | apply Drawn0.step)⟩
  case rest =>
    clear HC3
    try clear c1
    try clear c2
    try clear p2
    try clear c4
    try clear c4b0
    try clear c4b1
    obtain ⟨kq, x15_2, rfl, HA, HJ2, ⟨mc2, rfl⟩⟩ := hcut
    cases kq with
    | zero => exact absurd HA.out (by simp [impl_OrderValid.j0])
    | succ kj2 =>
      have H := HA.out
      clear HA
      simp only [impl_OrderValid.j0] at H
      by_cases c5 : x15_2 = true
      · subst c5
        have H1 : (some false) = some r := by rw [if_pos rfl] at H; exact H
        clear H
        have H := H1
        clear H1
        obtain rfl := Option.some.inj H
        go_wp2
        go_ret
        exact ⟨by first | rfl | (simp; done) | (simp [*]; done) | (simp [bne_nil_, beq_nil_]; done), by repeat (first | exact Drawn0.refl _ | apply Drawn0.step)⟩
      · replace c5 := Bool.eq_false_iff.mpr c5
        subst c5
        have H1 : (impl_OrderValid.l0 kj2 a0 l1 l1 (l1.length : Int) 0) = some r := by rw [if_neg (show ¬ (false = true) by decide)] at H; exact H
        clear H
        have H := H1
        clear H1
        have H' := Aside0.mk H
        clear H
        go_wp2
        go_loopg [18] kj2 (fun kq v18 w' => ∃ (x18_2 : Int), v18 = .int .i64 x18_2 ∧ Aside0 (impl_OrderValid.l0 kq a0 l1 l1 (l1.length : Int) x18_2 = some r) ∧ Aside0 (kq ≤ kj2) ∧ Drawn0 w w')
        case atStart => exact ⟨(0), (by first | rfl | (simp; done) | (simp [*]; done) | (simp [bne_nil_, beq_nil_]; done)), H', ⟨Nat.le_refl _⟩, by repeat (first | exact Drawn0.refl _ | apply Drawn0.step)⟩
        case round =>
          clear H'
          try clear c1
          try clear c2
          try clear p2
          try clear c4
          try clear c4b0
          try clear c4b1
          try clear c5
          try clear p2
          obtain ⟨x18_2, rfl, HA, HK2, ⟨m2, rfl⟩⟩ := hrel
          cases gk with
          | zero => exact absurd HA.out (by simp [impl_OrderValid.l0])
          | succ k2 =>
            have H := HA.out
            clear HA
            simp only [impl_OrderValid.l0] at H
            by_cases c6 : x18_2 < (l1.length : Int)
            · rw [if_pos c6] at H
              have c6b0 : decide (x18_2 < (l1.length : Int)) = true := decide_eq_true c6
              clear c6
              by_cases c7 : 0 ≤ x18_2
              · rw [if_pos c7] at H
                have c7b0 : decide (0 ≤ x18_2) = true := decide_eq_true c7
                clear c7
                by_cases c8 : x18_2 < (l1.length : Int)
                · rw [if_pos c8] at H
                  have c8b0 : decide (x18_2 < (l1.length : Int)) = true := decide_eq_true c8
                  clear c8
                  by_cases c9 : (rd l1 x18_2) < 0
                  · rw [if_pos c9] at H
                    have c9b0 : decide ((rd l1 x18_2) < 0) = true := decide_eq_true c9
                    clear c9
                    obtain rfl := Option.some.inj H
                    have p427 : 0 ≤ (x18_2 : Int) := of_decide_eq_true (by first | (with_reducible assumption) | assumption)
                    have q427 : x18_2 < (l1.length : Int) := of_decide_eq_true (by first | (with_reducible assumption) | assumption)
                    obtain ⟨ad427, e427, hx427_0⟩ := Kd.at_int HR1.out x18_2 p427 q427
                    cases e427
                    replace p427 := eq_true p427
                    replace q427 := eq_true q427
                    go_wp2
                    go_ret
                    exact ⟨by first | rfl | (simp; done) | (simp [*]; done) | (simp [bne_nil_, beq_nil_]; done), by repeat (first | exact Drawn0.refl _ | apply Drawn0.step)⟩
                  · rw [if_neg c9] at H
                    have c9b0 : decide ((rd l1 x18_2) < 0) = false := decide_eq_false c9
                    clear c9
                    by_cases c10 : (rd l1 x18_2) ≥ a0
                    · rw [if_pos c10] at H
                      have c10b0 : decide (a0 ≤ (rd l1 x18_2)) = true := decide_eq_true c10
                      clear c10
                      obtain rfl := Option.some.inj H
                      have p427 : 0 ≤ (x18_2 : Int) := of_decide_eq_true (by first | (with_reducible assumption) | assumption)
                      have q427 : x18_2 < (l1.length : Int) := of_decide_eq_true (by first | (with_reducible assumption) | assumption)
                      obtain ⟨ad427, e427, hx427_0⟩ := Kd.at_int HR1.out x18_2 p427 q427
                      cases e427
                      replace p427 := eq_true p427
                      replace q427 := eq_true q427
                      go_wp2
                      go_ret
                      exact ⟨by first | rfl | (simp; done) | (simp [*]; done) | (simp [bne_nil_, beq_nil_]; done), by repeat (first | exact Drawn0.refl _ | apply Drawn0.step)⟩
                    · rw [if_neg c10] at H
                      have c10b0 : decide (a0 ≤ (rd l1 x18_2)) = false := decide_eq_false c10
                      clear c10
                      have c11b0 := eq_true (of_decide_eq_true (by first | (with_reducible assumption) | assumption) : 0 ≤ x18_2)
                      by_cases c12 : x18_2 ≤ (l1.length : Int)
                      · rw [if_pos c12] at H
                        have c12b0 := eq_true c12
                        have c12b1 : decide (x18_2 ≤ (l1.length : Int)) = true := decide_eq_true c12
                        clear c12
                        obtain ⟨y428, hy428⟩ : ∃ y_ : List Int, y_ = (l1.take (x18_2 : Int).toNat) := ⟨_, rfl⟩
                        replace H : ((slices_Contains_int_int.f k2 y428 (rd l1 x18_2)).bind fun t432 => (if t432 = true then (some false) else (impl_OrderValid.l0 k2 a0 l1 l1 (l1.length : Int) (wrap64 (x18_2 + 1))))) = some r := by first | (rw [hy428]; with_reducible exact H) | (have H2_ := (Option.bind_some _ _).symm.trans H; rw [hy428]; with_reducible exact H2_) | (have H2_ := (Option.bind_some _ _).symm.trans H; with_reducible exact H2_) | with_reducible exact H | (rw [hy428]; exact H) | exact H
                        have Ny428 := Aside0.mk hy428
                        clear hy428
                        replace H := Option.bind_eq_some_iff.mp H
                        obtain ⟨t432, A130, H⟩ := H
                        replace H : (if t432 = true then (some false) else (impl_OrderValid.l0 k2 a0 l1 l1 (l1.length : Int) (wrap64 (x18_2 + 1)))) = some r := H
                        have A13 := Aside0.mk A130
                        clear A130
                        by_cases c14 : t432 = true
                        · subst c14
                          have H1 : (some false) = some r := by rw [if_pos rfl] at H; exact H
                          clear H
                          have H := H1
                          clear H1
                          obtain rfl := Option.some.inj H
                          have p427 : 0 ≤ (x18_2 : Int) := of_decide_eq_true (by first | (with_reducible assumption) | assumption)
                          have q427 : x18_2 < (l1.length : Int) := of_decide_eq_true (by first | (with_reducible assumption) | assumption)
                          obtain ⟨ad427, e427, hx427_0⟩ := Kd.at_int HR1.out x18_2 p427 q427
                          cases e427
                          replace p427 := eq_true p427
                          replace q427 := eq_true q427
                          have q15 : (x18_2 : Int) ≤ ((l1.length : Int) : Int) := of_decide_eq_true (by first | (with_reducible assumption) | assumption)
                          obtain ⟨i015, hi015, _, hsz15, _⟩ := info_parts info3
                          have hroom15 : l1.length ≤ c1 := HC1.out
                          have hC15 : Kd.C (Kd.int .i64) _ (some ad427) l1.length l1 := HR1.out
                          have hcut15 := cut_to (P := Try.prog) 33 3 .i64 Try.underlying33 hi015 (some ad427) l1.length c1 x18_2 (of_decide_eq_true (by first | (with_reducible assumption) | assumption)) q15 hroom15
                          have hr15 := Kd.C_take (m := (x18_2 : Int).toNat) hC15 (by omega)
                          have hy15 : y428.length = (x18_2 : Int).toNat := (by rw [Ny428.out, List.length_take]; omega)
                          rw [← Ny428.out] at hr15
                          rw [← hy15] at hcut15
                          have HR431 := Aside0.mk hr15
                          have HC431 := Aside0.mk (show y428.length ≤ c1 from by omega)
                          clear hr15 hC15 hroom15 hi015 hsz15
                          have KY15 := Aside0.mk hy15
                          clear hy15
                          replace q15 := eq_true q15
                          go_wp2_with (first | (go_at_call 83; (with_reducible refine (slices_Contains_int_int.calls k2 _ _ y428 (rd l1 x18_2) true _ ?side1 ?side2 A13.out).mono ?_); (case side1 => exact cc HR431.out); (case side2 => exact HC431.out); rintro e w' ⟨rfl, ⟨nd, rfl⟩⟩))
                          go_ret
                          exact ⟨by first | rfl | (simp; done) | (simp [*]; done) | (simp [bne_nil_, beq_nil_]; done), by repeat (first | exact Drawn0.refl _ | apply Drawn0.step)⟩
                        · replace c14 := Bool.eq_false_iff.mpr c14
                          subst c14
                          have H1 : (impl_OrderValid.l0 k2 a0 l1 l1 (l1.length : Int) (wrap64 (x18_2 + 1))) = some r := by rw [if_neg (show ¬ (false = true) by decide)] at H; exact H
                          clear H
                          have H := H1
                          clear H1
                          have H' := Aside0.mk H
                          clear H
                          have p427 : 0 ≤ (x18_2 : Int) := of_decide_eq_true (by first | (with_reducible assumption) | assumption)
                          have q427 : x18_2 < (l1.length : Int) := of_decide_eq_true (by first | (with_reducible assumption) | assumption)
                          obtain ⟨ad427, e427, hx427_0⟩ := Kd.at_int HR1.out x18_2 p427 q427
                          cases e427
                          replace p427 := eq_true p427
                          replace q427 := eq_true q427
                          have q16 : (x18_2 : Int) ≤ ((l1.length : Int) : Int) := of_decide_eq_true (by first | (with_reducible assumption) | assumption)
                          obtain ⟨i016, hi016, _, hsz16, _⟩ := info_parts info3
                          have hroom16 : l1.length ≤ c1 := HC1.out
                          have hC16 : Kd.C (Kd.int .i64) _ (some ad427) l1.length l1 := HR1.out
                          have hcut16 := cut_to (P := Try.prog) 33 3 .i64 Try.underlying33 hi016 (some ad427) l1.length c1 x18_2 (of_decide_eq_true (by first | (with_reducible assumption) | assumption)) q16 hroom16
                          have hr16 := Kd.C_take (m := (x18_2 : Int).toNat) hC16 (by omega)
                          have hy16 : y428.length = (x18_2 : Int).toNat := (by rw [Ny428.out, List.length_take]; omega)
                          rw [← Ny428.out] at hr16
                          rw [← hy16] at hcut16
                          have HR431 := Aside0.mk hr16
                          have HC431 := Aside0.mk (show y428.length ≤ c1 from by omega)
                          clear hr16 hC16 hroom16 hi016 hsz16
                          have KY16 := Aside0.mk hy16
                          clear hy16
                          replace q16 := eq_true q16
                          go_wp2_with (first | (go_at_call 83; (with_reducible refine (slices_Contains_int_int.calls k2 _ _ y428 (rd l1 x18_2) false _ ?side1 ?side2 A13.out).mono ?_); (case side1 => exact cc HR431.out); (case side2 => exact HC431.out); rintro e w' ⟨rfl, ⟨nd, rfl⟩⟩))
                          go_roundg k2
                          case measure => have := HJ2.out; have := HK2.out; omega
                          case rel => exact ⟨(wrap64 (x18_2 + 1)), (by first | rfl | (simp; done) | (simp [*]; done) | (simp [bne_nil_, beq_nil_]; done)), H', ⟨by have := HJ2.out; have := HK2.out; omega⟩, by repeat (first | exact Drawn0.refl _ | apply Drawn0.step)⟩
                      · rw [if_neg c12] at H
                        exact absurd H (by simp)
                · rw [if_neg c8] at H
                  exact absurd H (by simp)
              · rw [if_neg c7] at H
                exact absurd H (by simp)
            · rw [if_neg c6] at H
              have c6b0 : decide (x18_2 < (l1.length : Int)) = false := decide_eq_false c6
              clear c6
              obtain rfl := Option.some.inj H
              go_wp2
              go_ret
              exact ⟨by first | rfl | (simp; done) | (simp [*]; done) | (simp [bne_nil_, beq_nil_]; done), by repeat (first | exact Drawn0.refl _ | apply Drawn0.step)⟩

/-! ### impl_clientNumber: function 84 -/
def impl_clientNumber.f (a0 : Int) : Option (Bool) := if a0 ≥ 1 then (some (decide (a0 < 4))) else (some false)
set_option maxHeartbeats 8000000 in
set_option maxRecDepth 100000 in
theorem impl_clientNumber.calls (a0 : Int) (r : Bool) (w : World) (h : impl_clientNumber.f a0 = some r) :
    Calls Try.prog 84 #[.int .i64 a0] w fun e w' => e = .returned (.bool r) ∧ Drawn0 w w' := by
  have H : (if a0 ≥ 1 then (some (decide (a0 < 4))) else (some false)) = some r := h
  clear h
  by_cases c2 : a0 ≥ 1
  · rw [if_pos c2] at H
    have c2b0 : decide (1 ≤ a0) = true := decide_eq_true c2
    clear c2
    obtain rfl := Option.some.inj H
    go_enter Try.func84, Try.ntmps84
    go_wp2
    go_ret
    exact ⟨by first | rfl | (simp; done) | (simp [*]; done) | (simp [bne_nil_, beq_nil_]; done), by repeat (first | exact Drawn0.refl _ | apply Drawn0.step)⟩
  · rw [if_neg c2] at H
    have c2b0 : decide (1 ≤ a0) = false := decide_eq_false c2
    clear c2
    obtain rfl := Option.some.inj H
    go_enter Try.func84, Try.ntmps84
    go_wp2
    go_ret
    exact ⟨by first | rfl | (simp; done) | (simp [*]; done) | (simp [bne_nil_, beq_nil_]; done), by repeat (first | exact Drawn0.refl _ | apply Drawn0.step)⟩

/-! ### impl_seqValid: function 85 -/
def impl_seqValid.f (a0 : Int) : Option (Bool) := if a0 ≥ 1 then (some (decide (a0 ≤ 999))) else (some false)
set_option maxHeartbeats 8000000 in
set_option maxRecDepth 100000 in
theorem impl_seqValid.calls (a0 : Int) (r : Bool) (w : World) (h : impl_seqValid.f a0 = some r) :
    Calls Try.prog 85 #[.int .i64 a0] w fun e w' => e = .returned (.bool r) ∧ Drawn0 w w' := by
  have H : (if a0 ≥ 1 then (some (decide (a0 ≤ 999))) else (some false)) = some r := h
  clear h
  by_cases c2 : a0 ≥ 1
  · rw [if_pos c2] at H
    have c2b0 : decide (1 ≤ a0) = true := decide_eq_true c2
    clear c2
    obtain rfl := Option.some.inj H
    go_enter Try.func85, Try.ntmps85
    go_wp2
    go_ret
    exact ⟨by first | rfl | (simp; done) | (simp [*]; done) | (simp [bne_nil_, beq_nil_]; done), by repeat (first | exact Drawn0.refl _ | apply Drawn0.step)⟩
  · rw [if_neg c2] at H
    have c2b0 : decide (1 ≤ a0) = false := decide_eq_false c2
    clear c2
    obtain rfl := Option.some.inj H
    go_enter Try.func85, Try.ntmps85
    go_wp2
    go_ret
    exact ⟨by first | rfl | (simp; done) | (simp [*]; done) | (simp [bne_nil_, beq_nil_]; done), by repeat (first | exact Drawn0.refl _ | apply Drawn0.step)⟩

end Go.Proofs.Ytfeeifefmenlmaa.PFnRealTime
