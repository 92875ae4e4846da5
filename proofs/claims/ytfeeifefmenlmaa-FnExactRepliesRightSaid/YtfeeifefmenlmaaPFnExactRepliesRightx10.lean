-- Written by a program of this session, in the manner of the kit's print (wip/pp.py): functions and their contracts.
import Derived.Test.YtfeeifefmenlmaaPFnExactRepliesRightx0
import Derived.Test.YtfeeifefmenlmaaPFnExactRepliesRightx6
import Derived.Test.YtfeeifefmenlmaaPFnExactRepliesRightx7
import Derived.Test.YtfeeifefmenlmaaPFnExactRepliesRightx9
namespace Go.Proofs.Ytfeeifefmenlmaa.PFnExactRepliesRight
open Go.RowKit Go.Proofs.YtfeeifefmenlmaaW.PrintWords Go.Proofs.YtfeeifefmenlmaaW.PrintLast Go.Proofs.YtfeeifefmenlmaaW.PrintMore
attribute [local go_sem] binOp_leq_str binOp_gtr_str binOp_geq_str max2_int min2_int max_two min_two max_three min_three max_four min_four   -- for this text's walks alone
set_option linter.unusedVariables false
set_option linter.unusedSimpArgs false

/-! ### impl_RepliesRight: function 68 -/
mutual
def impl_RepliesRight.j0 : Nat → List (S42) → List Int → Bool → Option (Bool)
  | 0, _, _, _ => none
  | k + 1, x0, x1, x20 => if x20 = true then (some false) else (impl_RepliesRight.l0 k x0 ([] : List (S140)) x1 (x1.length : Int) 0)
def impl_RepliesRight.l0 : Nat → List (S42) → List (S140) → List Int → Int → Int → Option (Bool)
  | 0, _, _, _, _, _ => none
  | k + 1, x0, x5, x21, x22, x23 => if x23 < x22 then (if 0 ≤ x23 then (if x23 < (x21.length : Int) then (if 0 ≤ (rd x21 x23) then (if (rd x21 x23) < (x0.length : Int) then (if x5.length < 2199023255552 then (impl_RepliesRight.l0 k x0 (x5 ++ [(⟨(⟨(rd_T42 x0 (rd x21 x23)).f0, (rd_T42 x0 (rd x21 x23)).f1, (⟨(rd_T42 x0 (rd x21 x23)).f2.f0, (rd_T42 x0 (rd x21 x23)).f2.f1, (rd_T42 x0 (rd x21 x23)).f2.f2, (rd_T42 x0 (rd x21 x23)).f2.f3⟩ : S40)⟩ : S138), (rd_T42 x0 (rd x21 x23)).f3⟩ : S140)]) x21 x22 (wrap64 (x23 + 1))) else (none)) else (none)) else (none)) else (none)) else (none)) else ((impl_RunHistory.f k x5).bind fun bt410 => (some bt410.2))
end
def impl_RepliesRight.f (k : Nat) (l0 : List (S42)) (l1 : List Int) : Option (Bool) := (impl_resultsValid.f k l0).bind fun t402 => (if t402 = true then ((impl_OrderValid.f k (l0.length : Int) l1).bind fun t403 => (impl_RepliesRight.j0 k l0 l1 (!t403))) else (impl_RepliesRight.j0 k l0 l1 true))
theorem impl_RepliesRight.mono_l : ∀ k, (∀ y0 y1 y2, LeO (impl_RepliesRight.j0 k y0 y1 y2) (impl_RepliesRight.j0 (k + 1) y0 y1 y2)) ∧ (∀ y0 y1 y2 y3 y4, LeO (impl_RepliesRight.l0 k y0 y1 y2 y3 y4) (impl_RepliesRight.l0 (k + 1) y0 y1 y2 y3 y4))
  | 0 => ⟨fun _ _ _ r h => by simp [impl_RepliesRight.j0] at h, fun _ _ _ _ _ r h => by simp [impl_RepliesRight.l0] at h⟩
  | k + 1 => by
    obtain ⟨ih0, ih1⟩ := impl_RepliesRight.mono_l k
    refine ⟨?_, ?_⟩
    · intro y0 y1 y2
      unfold impl_RepliesRight.j0
      repeat' first
      | (with_reducible exact ih0 _ _ _)
      | (with_reducible exact ih1 _ _ _ _ _)
      | (with_reducible exact impl_OrderValid.mono _ _ _)
      | (with_reducible exact impl_RunHistory.mono _ _)
      | (with_reducible exact impl_resultsValid.mono _ _)
      | (with_reducible exact LeO.refl _)
      | (with_reducible exact LeO.none _)
      | (with_reducible refine LeO.ite ?_ ?_)
      | (with_reducible refine LeO.bind ?_ (fun _ => ?_))
      | exact ih0 _ _ _
      | exact ih1 _ _ _ _ _
      | exact impl_OrderValid.mono _ _ _
      | exact impl_RunHistory.mono _ _
      | exact impl_resultsValid.mono _ _
      | exact LeO.none _
      | refine LeO.ite ?_ ?_
      | refine LeO.bind ?_ (fun _ => ?_)
    · intro y0 y1 y2 y3 y4
      unfold impl_RepliesRight.l0
      repeat' first
      | (with_reducible exact ih0 _ _ _)
      | (with_reducible exact ih1 _ _ _ _ _)
      | (with_reducible exact impl_OrderValid.mono _ _ _)
      | (with_reducible exact impl_RunHistory.mono _ _)
      | (with_reducible exact impl_resultsValid.mono _ _)
      | (with_reducible exact LeO.refl _)
      | (with_reducible exact LeO.none _)
      | (with_reducible refine LeO.ite ?_ ?_)
      | (with_reducible refine LeO.bind ?_ (fun _ => ?_))
      | exact ih0 _ _ _
      | exact ih1 _ _ _ _ _
      | exact impl_OrderValid.mono _ _ _
      | exact impl_RunHistory.mono _ _
      | exact impl_resultsValid.mono _ _
      | exact LeO.none _
      | refine LeO.ite ?_ ?_
      | refine LeO.bind ?_ (fun _ => ?_)
theorem impl_RepliesRight.mono : ∀ a0 a1 k, LeO (impl_RepliesRight.f k a0 a1) (impl_RepliesRight.f (k + 1) a0 a1) := by
  intro a0 a1 k
  obtain ⟨ih0, ih1⟩ := impl_RepliesRight.mono_l k
  unfold impl_RepliesRight.f
  repeat' first
      | (with_reducible exact ih0 _ _ _)
      | (with_reducible exact ih1 _ _ _ _ _)
      | (with_reducible exact impl_OrderValid.mono _ _ _)
      | (with_reducible exact impl_RunHistory.mono _ _)
      | (with_reducible exact impl_resultsValid.mono _ _)
      | (with_reducible exact LeO.refl _)
      | (with_reducible exact LeO.none _)
      | (with_reducible refine LeO.ite ?_ ?_)
      | (with_reducible refine LeO.bind ?_ (fun _ => ?_))
      | exact ih0 _ _ _
      | exact ih1 _ _ _ _ _
      | exact impl_OrderValid.mono _ _ _
      | exact impl_RunHistory.mono _ _
      | exact impl_resultsValid.mono _ _
      | exact LeO.none _
      | refine LeO.ite ?_ ?_
      | refine LeO.bind ?_ (fun _ => ?_)
set_option maxHeartbeats 8000000 in
set_option maxRecDepth 100000 in
theorem impl_RepliesRight.calls (k : Nat) (A0 : Option Addr) (c0 : Nat) (l0 : List (S42)) (A1 : Option Addr) (c1 : Nat) (l1 : List Int) (r : Bool) (w : World) (hr0 : Kd.C k42 w A0 l0.length l0) (hc0 : l0.length ≤ c0) (hr1 : Kd.C (Kd.int .i64) w A1 l1.length l1) (hc1 : l1.length ≤ c1) (h : impl_RepliesRight.f k l0 l1 = some r) :
    Calls Try.prog 68 #[.slice A0 l0.length c0, .slice A1 l1.length c1] w fun e w' => e = .returned (.bool r) ∧ Below w.heap.size w w' := by
  have hu42 := Try.underlying42
  have hu40 := Try.underlying40
  have hu138 := Try.underlying138
  have hu140 := Try.underlying140
  have HR0 := Aside0.mk hr0
  have HC0 := Aside0.mk hc0
  clear hr0 hc0
  have HR1 := Aside0.mk hr1
  have HC1 := Aside0.mk hc1
  clear hr1 hc1
  have HB := Aside0.mk (Below.refl w.heap.size w)
  have H : ((impl_resultsValid.f k l0).bind fun t402 => (if t402 = true then ((impl_OrderValid.f k (l0.length : Int) l1).bind fun t403 => (impl_RepliesRight.j0 k l0 l1 (!t403))) else (impl_RepliesRight.j0 k l0 l1 true))) = some r := h
  clear h
  have HC3 := Aside0.mk H
  clear H
  go_enter Try.func68, Try.ntmps68
  go_upto_region 1 with (fail)
  go_cut [20] (fun v20 wc => ∃ (kq : Nat) (x20_2 : Bool), v20 = .bool x20_2 ∧ Aside0 (impl_RepliesRight.j0 kq l0 l1 x20_2 = some r) ∧ Aside0 (kq ≤ k) ∧ Aside0 (Below w.heap.size w wc))
  case first =>
    have H := HC3.out
    clear HC3
    replace H := Option.bind_eq_some_iff.mp H
    obtain ⟨t402, A40, H⟩ := H
    replace H : (if t402 = true then ((impl_OrderValid.f k (l0.length : Int) l1).bind fun t403 => (impl_RepliesRight.j0 k l0 l1 (!t403))) else (impl_RepliesRight.j0 k l0 l1 true)) = some r := H
    have A4 := Aside0.mk A40
    clear A40
    by_cases c5 : t402 = true
    · subst c5
      have H1 : ((impl_OrderValid.f k (l0.length : Int) l1).bind fun t403 => (impl_RepliesRight.j0 k l0 l1 (!t403))) = some r := by rw [if_pos rfl] at H; exact H
      clear H
      have H := H1
      clear H1
      replace H := Option.bind_eq_some_iff.mp H
      obtain ⟨t403, A60, H⟩ := H
      replace H : (impl_RepliesRight.j0 k l0 l1 (!t403)) = some r := H
      have A6 := Aside0.mk A60
      clear A60
      have H' := Aside0.mk H
      clear H
      go_wp2_with (first | ((with_reducible refine gate_callee (f := 80) rfl ?_); refine gsl (some 12) rfl Try.func80 #[.slice A0 l0.length c0] rfl ?_; (with_reducible refine (impl_resultsValid.calls k _ _ l0 true _ ?side1 ?side2 A4.out).mono ?_); (case side1 => exact cc (Kd.C_below HR0.out HB.out)); (case side2 => exact HC0.out); rintro e w7 ⟨rfl, hb⟩; refine ⟨_, rfl, ?_⟩; replace HB := an0 HB hb; (try clear hb); (try clear hb2); (try clear hk); (try clear hi)) | (go_at_call 23; (with_reducible refine (impl_OrderValid.calls k (l0.length : Int) _ _ l1 t403 _ ?side1 ?side2 A6.out).mono ?_); (case side1 => exact cc (Kd.C_below HR1.out HB.out)); (case side2 => exact HC1.out); rintro e w' ⟨rfl, ⟨nd, rfl⟩⟩))
      go_meet
      case rel => exact ⟨_, (!t403), (by first | rfl | (simp; done) | (simp [*]; done) | (simp [bne_nil_, beq_nil_]; done)), H', ⟨by first | omega | exact Nat.le_refl _⟩, ⟨bp HB.out⟩⟩
    · replace c5 := Bool.eq_false_iff.mpr c5
      subst c5
      have H1 : (impl_RepliesRight.j0 k l0 l1 true) = some r := by rw [if_neg (show ¬ (false = true) by decide)] at H; exact H
      clear H
      have H := H1
      clear H1
      have H' := Aside0.mk H
      clear H
      go_wp2_with (first | ((with_reducible refine gate_callee (f := 80) rfl ?_); refine gsl (some 12) rfl Try.func80 #[.slice A0 l0.length c0] rfl ?_; (with_reducible refine (impl_resultsValid.calls k _ _ l0 false _ ?side1 ?side2 A4.out).mono ?_); (case side1 => exact cc (Kd.C_below HR0.out HB.out)); (case side2 => exact HC0.out); rintro e w8 ⟨rfl, hb⟩; refine ⟨_, rfl, ?_⟩; replace HB := an0 HB hb; (try clear hb); (try clear hb2); (try clear hk); (try clear hi)))
      go_meet
      case rel => exact ⟨_, (true), (by first | rfl | (simp; done) | (simp [*]; done) | (simp [bne_nil_, beq_nil_]; done)), H', ⟨by first | omega | exact Nat.le_refl _⟩, ⟨bp HB.out⟩⟩
  case rest =>
    clear HC3
    try clear c1
    try clear p2
    try clear c5
    try clear c6
    try clear c8
    obtain ⟨kq, x20_2, rfl, HA, HJ2, HB⟩ := hcut
    cases kq with
    | zero => exact absurd HA.out (by simp [impl_RepliesRight.j0])
    | succ kj2 =>
      have H := HA.out
      clear HA
      simp only [impl_RepliesRight.j0] at H
      by_cases c9 : x20_2 = true
      · subst c9
        have H1 : (some false) = some r := by rw [if_pos rfl] at H; exact H
        clear H
        have H := H1
        clear H1
        obtain rfl := Option.some.inj H
        go_wp2
        go_ret
        exact ⟨fe, bp HB.out⟩
      · replace c9 := Bool.eq_false_iff.mpr c9
        subst c9
        have H1 : (impl_RepliesRight.l0 kj2 l0 ([] : List (S140)) l1 (l1.length : Int) 0) = some r := by rw [if_neg (show ¬ (false = true) by decide)] at H; exact H
        clear H
        have H := H1
        clear H1
        have H' := Aside0.mk H
        clear H
        go_wp2
        go_loopg [5, 23] kj2 (fun kq v5 v23 w' => ∃ (x5_2 : List (S140)) (x23_2 : Int), v23 = .int .i64 x23_2 ∧ Aside0 (impl_RepliesRight.l0 kq l0 x5_2 l1 (l1.length : Int) x23_2 = some r) ∧ Aside0 (kq ≤ kj2) ∧ Aside0 (Kd.R k140 140 w' w.heap.size (fun _ => True) v5 x5_2) ∧ Aside0 (Below w.heap.size w w'))
        case atStart => exact ⟨(([] : List (S140))), (0), (by first | rfl | (simp; done) | (simp [*]; done) | (simp [bne_nil_, beq_nil_]; done)), H', ⟨Nat.le_refl _⟩, ⟨by first | exact Kd.R_nil _ _ _ _ _ | exact Kd.N_nil _ _ _ _ _ | exact Kd.V_nil _ _ _ _ _ | exact Kd.Q_nil _ _ _ _ _ | exact Kd.S_nil _ _ _ _ _⟩, ⟨bp HB.out⟩⟩
        case round =>
          clear H'
          try clear c1
          try clear p2
          try clear c5
          try clear c6
          try clear p6
          try clear c8
          try clear c9
          try clear p2
          obtain ⟨x5_2, x23_2, rfl, HA, HK2, HO_5, HB⟩ := hrel
          cases gk with
          | zero => exact absurd HA.out (by simp [impl_RepliesRight.l0])
          | succ k2 =>
            have H := HA.out
            clear HA
            simp only [impl_RepliesRight.l0] at H
            by_cases c10 : x23_2 < (l1.length : Int)
            · rw [if_pos c10] at H
              have c10b0 : decide (x23_2 < (l1.length : Int)) = true := decide_eq_true c10
              clear c10
              by_cases c11 : 0 ≤ x23_2
              · rw [if_pos c11] at H
                have c11b0 : decide (0 ≤ x23_2) = true := decide_eq_true c11
                clear c11
                by_cases c12 : x23_2 < (l1.length : Int)
                · rw [if_pos c12] at H
                  have c12b0 : decide (x23_2 < (l1.length : Int)) = true := decide_eq_true c12
                  clear c12
                  by_cases c13 : 0 ≤ (rd l1 x23_2)
                  · rw [if_pos c13] at H
                    have c13b0 : decide (0 ≤ (rd l1 x23_2)) = true := decide_eq_true c13
                    clear c13
                    by_cases c14 : (rd l1 x23_2) < (l0.length : Int)
                    · rw [if_pos c14] at H
                      have c14b0 : decide ((rd l1 x23_2) < (l0.length : Int)) = true := decide_eq_true c14
                      clear c14
                      by_cases c15 : x5_2.length < 2199023255552
                      · rw [if_pos c15] at H
                        have LMc15 := Aside0.mk c15
                        clear c15
                        obtain ⟨y407, hy407⟩ : ∃ y_ : List (S140), y_ = (x5_2 ++ [(⟨(⟨(rd_T42 l0 (rd l1 x23_2)).f0, (rd_T42 l0 (rd l1 x23_2)).f1, (⟨(rd_T42 l0 (rd l1 x23_2)).f2.f0, (rd_T42 l0 (rd l1 x23_2)).f2.f1, (rd_T42 l0 (rd l1 x23_2)).f2.f2, (rd_T42 l0 (rd l1 x23_2)).f2.f3⟩ : S40)⟩ : S138), (rd_T42 l0 (rd l1 x23_2)).f3⟩ : S140)]) := ⟨_, rfl⟩
                        replace H : (impl_RepliesRight.l0 k2 l0 y407 l1 (l1.length : Int) (wrap64 (x23_2 + 1))) = some r := by first | (rw [hy407]; with_reducible exact H) | (have H2_ := (Option.bind_some _ _).symm.trans H; rw [hy407]; with_reducible exact H2_) | (have H2_ := (Option.bind_some _ _).symm.trans H; with_reducible exact H2_) | with_reducible exact H | (rw [hy407]; exact H) | exact H
                        have Ny407 := Aside0.mk hy407
                        clear hy407
                        have H' := Aside0.mk H
                        clear H
                        have p404 : 0 ≤ (x23_2 : Int) := of_decide_eq_true (by first | (with_reducible assumption) | assumption)
                        have q404 : x23_2 < (l1.length : Int) := of_decide_eq_true (by first | (with_reducible assumption) | assumption)
                        obtain ⟨ad404, e404, hx404_0⟩ := Kd.at_int HR1.out x23_2 p404 q404
                        cases e404
                        replace hx404_0 := hcx HB hx404_0
                        replace p404 := eq_true p404
                        replace q404 := eq_true q404
                        have p405 : 0 ≤ ((rd l1 x23_2) : Int) := of_decide_eq_true (by first | (with_reducible assumption) | assumption)
                        have q405 : (rd l1 x23_2) < (l0.length : Int) := of_decide_eq_true (by first | (with_reducible assumption) | assumption)
                        obtain ⟨ad405, e405, hx405_0, hx405_1, hx405_2, hx405_3, hx405_4, hx405_5, hx405_6, hx405_7, hx405_8⟩ := at_T42 HR0.out (rd l1 x23_2) p405 q405
                        cases e405
                        replace hx405_0 := hcx HB hx405_0
                        replace hx405_1 := hcx HB hx405_1
                        replace hx405_2 := hcx HB hx405_2
                        replace hx405_3 := hcx HB hx405_3
                        replace hx405_4 := hcx HB hx405_4
                        replace hx405_5 := hcx HB hx405_5
                        replace hx405_6 := hcx HB hx405_6
                        replace hx405_7 := hcx HB hx405_7
                        replace hx405_8 := hcx HB hx405_8
                        replace p405 := eq_true p405
                        replace q405 := eq_true q405
                        go_wp2_with (first | ((with_reducible refine gate_dst (N := 8) rfl ?_); (try (refine gate_guard (by rfl) ?_; dsimp only)); refine bxe (N := 8) (cs := #[.int .i64 0, .int .i64 0, .int .i64 0, .string (⟨#[]⟩ : ByteArray), .int .i64 0, .int .i64 0, .int .i64 0, .int .i64 0, .int .i64 0]) (t := 42) ?_; intro gb406 hg w16 hbox hb; have n0_ := Aside0.mk (Kd.R_below (kr HO_5.out) hb); have n1_ := an0 HB hb; have n2_ := Aside0.mk (hbox); have n3_ := an2 HB hg; have n4_ := an2 HB hg; clear HO_5; clear HB; have HO_5 := n0_; have HB := n1_; have BK406 := n2_; have GW406 := n3_; have GE406 := n4_; clear n0_ n1_ n2_ n3_ n4_; clear hb hbox hg; obtain ⟨hcz17_0, hcz17_1, hcz17_2, hcz17_3, hcz17_4, hcz17_5, hcz17_6, hcz17_7, hcz17_8, hfz17_0, hfz17_1, hfz17_2, hfz17_3, hfz17_4, hfz17_5, hfz17_6, hfz17_7, hfz17_8⟩ := cl9 BK406) | ((with_reducible refine gate_builtin (b := .append) (xs := #[.tmp 31, .tmp 42]) rfl ?_); (try (refine gate_guard (by rfl) ?_; dsimp only)); at_builtin; refine Kd.R_append k140 (w0 := w) w.heap.size rfl (.tmp 31) (.tmp 42) 136 140 (.agg #[(.int .i64 0), (.int .i64 0), (.int .i64 0), (.string ⟨#[]⟩), (.int .i64 0), (.int .i64 0), (.int .i64 0)]) 64 rfl Try.underlying136 info140 rfl (by decide) (by omega) u5 x5_2 (⟨(⟨(rd_T42 l0 (rd l1 x23_2)).f0, (rd_T42 l0 (rd l1 x23_2)).f1, (⟨(rd_T42 l0 (rd l1 x23_2)).f2.f0, (rd_T42 l0 (rd l1 x23_2)).f2.f1, (rd_T42 l0 (rd l1 x23_2)).f2.f2, (rd_T42 l0 (rd l1 x23_2)).f2.f3⟩ : S40)⟩ : S138), (rd_T42 l0 (rd l1 x23_2)).f3⟩ : S140) [.int .i64 ((rd_T42 l0 (rd l1 x23_2)).f0), .int .i64 ((rd_T42 l0 (rd l1 x23_2)).f1), .int .i64 ((rd_T42 l0 (rd l1 x23_2)).f2.f0), .string ((rd_T42 l0 (rd l1 x23_2)).f2.f1), .int .i64 ((rd_T42 l0 (rd l1 x23_2)).f2.f2), .int .i64 ((rd_T42 l0 (rd l1 x23_2)).f2.f3), .int .i64 ((rd_T42 l0 (rd l1 x23_2)).f3)] (fun _ => True) (fun _ => False) rfl (by first | (go_simp; done) | (go_simp; rfl)) ?aP (fun _ hk => hk.elim) ?aF ?aO ?aB ?aS ?aL ?_; (case aP => exact k140_mkM _ _ _ (⟨(⟨(rd_T42 l0 (rd l1 x23_2)).f0, (rd_T42 l0 (rd l1 x23_2)).f1, (⟨(rd_T42 l0 (rd l1 x23_2)).f2.f0, (rd_T42 l0 (rd l1 x23_2)).f2.f1, (rd_T42 l0 (rd l1 x23_2)).f2.f2, (rd_T42 l0 (rd l1 x23_2)).f2.f3⟩ : S40)⟩ : S138), (rd_T42 l0 (rd l1 x23_2)).f3⟩ : S140)); (case aB => exact (bp HB.out)); (case aF => exact (fun _ _ => trivial)); (case aO => exact (by (with_reducible repeat (first | apply Kd.R_alloc | apply Kd.R_drewN | apply Kd.R_drew)); exact Kd.R_mono (Kd.R_far (p := ⟨gb406, 8, none⟩) (Kd.R_far (p := ⟨gb406, 7, none⟩) (Kd.R_far (p := ⟨gb406, 6, none⟩) (Kd.R_far (p := ⟨gb406, 5, none⟩) (Kd.R_far (p := ⟨gb406, 4, none⟩) (Kd.R_far (p := ⟨gb406, 3, none⟩) (Kd.R_far (p := ⟨gb406, 2, none⟩) (Kd.R_far (p := ⟨gb406, 1, none⟩) (Kd.R_far (p := ⟨gb406, 0, none⟩) (Kd.R_types HO_5.out BK406.out (by decide)) (fun _ hk => hk.2) (.int .i64 ((rd_T42 l0 (rd l1 x23_2)).f0))) (fun _ hk => hk.2) (.int .i64 ((rd_T42 l0 (rd l1 x23_2)).f1))) (fun _ hk => hk.2) (.int .i64 ((rd_T42 l0 (rd l1 x23_2)).f2.f0))) (fun _ hk => hk.2) (.string ((rd_T42 l0 (rd l1 x23_2)).f2.f1))) (fun _ hk => hk.2) (.int .i64 ((rd_T42 l0 (rd l1 x23_2)).f2.f2))) (fun _ hk => hk.2) (.int .i64 ((rd_T42 l0 (rd l1 x23_2)).f2.f3))) (fun _ hk => hk.2) (.int .i64 ((rd_T42 l0 (rd l1 x23_2)).f3))) (fun _ hk => hk.2) (.int .i64 ((rd_T42 l0 (rd l1 x23_2)).f4))) (fun _ hk => hk.2) (.int .i64 ((rd_T42 l0 (rd l1 x23_2)).f5))) (fun _ hk => trivial))); (case aS => exact (below_size (bp HB.out))); (case aL => have := LMc15.out; omega); intro v408 w18 ho hb hg hat; rw [← Ny407.out] at ho; have n0_ := Aside0.mk (blk_grown (g := gb406) (o := .cells #[.int .i64 ((rd_T42 l0 (rd l1 x23_2)).f0), .int .i64 ((rd_T42 l0 (rd l1 x23_2)).f1), .int .i64 ((rd_T42 l0 (rd l1 x23_2)).f2.f0), .string ((rd_T42 l0 (rd l1 x23_2)).f2.f1), .int .i64 ((rd_T42 l0 (rd l1 x23_2)).f2.f2), .int .i64 ((rd_T42 l0 (rd l1 x23_2)).f2.f3), .int .i64 ((rd_T42 l0 (rd l1 x23_2)).f3), .int .i64 ((rd_T42 l0 (rd l1 x23_2)).f4), .int .i64 ((rd_T42 l0 (rd l1 x23_2)).f5)] 42 (0, 0)) (by (with_reducible repeat (first | refine blk_drewN ?_ _ | refine blk_drew ?_ | refine blk_alloc ?_ _)); refine blk_put (cs := #[.int .i64 ((rd_T42 l0 (rd l1 x23_2)).f0), .int .i64 ((rd_T42 l0 (rd l1 x23_2)).f1), .int .i64 ((rd_T42 l0 (rd l1 x23_2)).f2.f0), .string ((rd_T42 l0 (rd l1 x23_2)).f2.f1), .int .i64 ((rd_T42 l0 (rd l1 x23_2)).f2.f2), .int .i64 ((rd_T42 l0 (rd l1 x23_2)).f2.f3), .int .i64 ((rd_T42 l0 (rd l1 x23_2)).f3), .int .i64 ((rd_T42 l0 (rd l1 x23_2)).f4), .int .i64 0]) ?_ 8 _ rfl; (with_reducible repeat (first | refine blk_drewN ?_ _ | refine blk_drew ?_ | refine blk_alloc ?_ _)); refine blk_put (cs := #[.int .i64 ((rd_T42 l0 (rd l1 x23_2)).f0), .int .i64 ((rd_T42 l0 (rd l1 x23_2)).f1), .int .i64 ((rd_T42 l0 (rd l1 x23_2)).f2.f0), .string ((rd_T42 l0 (rd l1 x23_2)).f2.f1), .int .i64 ((rd_T42 l0 (rd l1 x23_2)).f2.f2), .int .i64 ((rd_T42 l0 (rd l1 x23_2)).f2.f3), .int .i64 ((rd_T42 l0 (rd l1 x23_2)).f3), .int .i64 0, .int .i64 0]) ?_ 7 _ rfl; (with_reducible repeat (first | refine blk_drewN ?_ _ | refine blk_drew ?_ | refine blk_alloc ?_ _)); refine blk_put (cs := #[.int .i64 ((rd_T42 l0 (rd l1 x23_2)).f0), .int .i64 ((rd_T42 l0 (rd l1 x23_2)).f1), .int .i64 ((rd_T42 l0 (rd l1 x23_2)).f2.f0), .string ((rd_T42 l0 (rd l1 x23_2)).f2.f1), .int .i64 ((rd_T42 l0 (rd l1 x23_2)).f2.f2), .int .i64 ((rd_T42 l0 (rd l1 x23_2)).f2.f3), .int .i64 0, .int .i64 0, .int .i64 0]) ?_ 6 _ rfl; (with_reducible repeat (first | refine blk_drewN ?_ _ | refine blk_drew ?_ | refine blk_alloc ?_ _)); refine blk_put (cs := #[.int .i64 ((rd_T42 l0 (rd l1 x23_2)).f0), .int .i64 ((rd_T42 l0 (rd l1 x23_2)).f1), .int .i64 ((rd_T42 l0 (rd l1 x23_2)).f2.f0), .string ((rd_T42 l0 (rd l1 x23_2)).f2.f1), .int .i64 ((rd_T42 l0 (rd l1 x23_2)).f2.f2), .int .i64 0, .int .i64 0, .int .i64 0, .int .i64 0]) ?_ 5 _ rfl; (with_reducible repeat (first | refine blk_drewN ?_ _ | refine blk_drew ?_ | refine blk_alloc ?_ _)); refine blk_put (cs := #[.int .i64 ((rd_T42 l0 (rd l1 x23_2)).f0), .int .i64 ((rd_T42 l0 (rd l1 x23_2)).f1), .int .i64 ((rd_T42 l0 (rd l1 x23_2)).f2.f0), .string ((rd_T42 l0 (rd l1 x23_2)).f2.f1), .int .i64 0, .int .i64 0, .int .i64 0, .int .i64 0, .int .i64 0]) ?_ 4 _ rfl; (with_reducible repeat (first | refine blk_drewN ?_ _ | refine blk_drew ?_ | refine blk_alloc ?_ _)); refine blk_put (cs := #[.int .i64 ((rd_T42 l0 (rd l1 x23_2)).f0), .int .i64 ((rd_T42 l0 (rd l1 x23_2)).f1), .int .i64 ((rd_T42 l0 (rd l1 x23_2)).f2.f0), .string (⟨#[]⟩ : ByteArray), .int .i64 0, .int .i64 0, .int .i64 0, .int .i64 0, .int .i64 0]) ?_ 3 _ rfl; (with_reducible repeat (first | refine blk_drewN ?_ _ | refine blk_drew ?_ | refine blk_alloc ?_ _)); refine blk_put (cs := #[.int .i64 ((rd_T42 l0 (rd l1 x23_2)).f0), .int .i64 ((rd_T42 l0 (rd l1 x23_2)).f1), .int .i64 0, .string (⟨#[]⟩ : ByteArray), .int .i64 0, .int .i64 0, .int .i64 0, .int .i64 0, .int .i64 0]) ?_ 2 _ rfl; (with_reducible repeat (first | refine blk_drewN ?_ _ | refine blk_drew ?_ | refine blk_alloc ?_ _)); refine blk_put (cs := #[.int .i64 ((rd_T42 l0 (rd l1 x23_2)).f0), .int .i64 0, .int .i64 0, .string (⟨#[]⟩ : ByteArray), .int .i64 0, .int .i64 0, .int .i64 0, .int .i64 0, .int .i64 0]) ?_ 1 _ rfl; (with_reducible repeat (first | refine blk_drewN ?_ _ | refine blk_drew ?_ | refine blk_alloc ?_ _)); refine blk_put (cs := #[.int .i64 0, .int .i64 0, .int .i64 0, .string (⟨#[]⟩ : ByteArray), .int .i64 0, .int .i64 0, .int .i64 0, .int .i64 0, .int .i64 0]) ?_ 0 _ rfl; (with_reducible repeat (first | refine blk_drewN ?_ _ | refine blk_drew ?_ | refine blk_alloc ?_ _)); exact BK406.out) hg (Kd.R_ne HO_5.out BK406.out (by decide))); have n1_ := Aside0.mk (hb); have n2_ := Aside0.mk (ho); clear BK406; clear HB; clear HO_5; have BK406 := n0_; have HB := n1_; have HO409 := n2_; clear n0_ n1_ n2_; clear ho hb hg hat))
                        go_roundg k2
                        case measure => have := HJ2.out; have := HK2.out; omega
                        case rel => exact ⟨(y407), (wrap64 (x23_2 + 1)), (by first | rfl | (simp; done) | (simp [*]; done) | (simp [bne_nil_, beq_nil_]; done)), H', ⟨by have := HJ2.out; have := HK2.out; omega⟩, ⟨by (with_reducible repeat (first | apply Kd.R_alloc | apply Kd.R_drewN | apply Kd.R_drew)); exact HO409.out⟩, ⟨bp HB.out⟩⟩
                      · rw [if_neg c15] at H
                        exact absurd H (by simp)
                    · rw [if_neg c14] at H
                      exact absurd H (by simp)
                  · rw [if_neg c13] at H
                    exact absurd H (by simp)
                · rw [if_neg c12] at H
                  exact absurd H (by simp)
              · rw [if_neg c11] at H
                exact absurd H (by simp)
            · rw [if_neg c10] at H
              have c10b0 : decide (x23_2 < (l1.length : Int)) = false := decide_eq_false c10
              clear c10
              replace H := Option.bind_eq_some_iff.mp H
              obtain ⟨⟨t410, t411⟩, A190, H⟩ := H
              replace H : (some t411) = some r := H
              have A19 := Aside0.mk A190
              clear A190
              obtain rfl := Option.some.inj H
              obtain ⟨Ao20, co20, eo20⟩ := Kd.R_slice HO_5.out
              subst eo20
              go_wp2_with (first | ((with_reducible refine gate_callee (f := 120) rfl ?_); refine gsl (some 47) rfl Try.func120 #[.slice Ao20 x5_2.length co20] rfl ?_; (with_reducible refine (impl_RunHistory.calls k2 _ _ x5_2 t410 t411 _ ?side1 ?side2 A19.out).mono ?_); (case side1 => repeat (first | exact (Kd.R_reads' HO_5.out).2.2 | (with_reducible refine Kd.C_alloc ?_ _) | (with_reducible refine Kd.C_drewN ?_ _) | (with_reducible refine Kd.C_drew ?_))); (case side2 => exact (Kd.R_reads' HO_5.out).2.1); rintro e w21 ⟨v412, rfl, ho0, hb⟩; refine ⟨_, rfl, ?_⟩; have n0_ := Aside0.mk (Kd.R_below (kr HO_5.out) hb); have n1_ := Aside0.mk (Kd.R_lower ho0 (below_size (bp HB.out))); have n2_ := an0 HB hb; clear HO_5; clear HB; have HO_5 := n0_; have HO413 := n1_; have HB := n2_; clear n0_ n1_ n2_; (try clear hb); (try clear hb2); (try clear hk); (try clear hi); (try clear ho0)))
              go_ret
              exact ⟨fe, bp HB.out⟩

/-! ### laws_eqCommand: function 157 -/
def laws_eqCommand.f (a0_0 : Int) (a0_1 : ByteArray) (a0_2 : Int) (a0_3 : Int) (a1_0 : Int) (a1_1 : ByteArray) (a1_2 : Int) (a1_3 : Int) : Option (Bool) := if a0_0 = a1_0 then (if a0_1.toList = a1_1.toList then (if a0_2 = a1_2 then (if a0_3 = a1_3 then (some true) else (some false)) else (some false)) else (some false)) else (some false)
set_option maxHeartbeats 8000000 in
set_option maxRecDepth 100000 in
theorem laws_eqCommand.calls (a0_0 : Int) (a0_1 : ByteArray) (a0_2 : Int) (a0_3 : Int) (a1_0 : Int) (a1_1 : ByteArray) (a1_2 : Int) (a1_3 : Int) (r : Bool) (w : World) (h : laws_eqCommand.f a0_0 a0_1 a0_2 a0_3 a1_0 a1_1 a1_2 a1_3 = some r) :
    Calls Try.prog 157 #[.agg #[.int .i64 a0_0, .string a0_1, .int .i64 a0_2, .int .i64 a0_3], .agg #[.int .i64 a1_0, .string a1_1, .int .i64 a1_2, .int .i64 a1_3]] w fun e w' => e = .returned (.bool r) ∧ Below w.heap.size w w' := by
  have hu40 := Try.underlying40
  have HB := Aside0.mk (Below.refl w.heap.size w)
  have H : (if a0_0 = a1_0 then (if a0_1.toList = a1_1.toList then (if a0_2 = a1_2 then (if a0_3 = a1_3 then (some true) else (some false)) else (some false)) else (some false)) else (some false)) = some r := h
  clear h
  by_cases c3 : a0_0 = a1_0
  · rw [if_pos c3] at H
    have c3b0 : (a0_0 == a1_0) = true := beq_iff_eq.mpr c3
    have c3b1 : (a0_0 != a1_0) = false := bne_eq_false_iff_eq.mpr c3
    clear c3
    by_cases c4 : a0_1.toList = a1_1.toList
    · rw [if_pos c4] at H
      have c4b0 : (a0_1.toList == a1_1.toList) = true := beq_iff_eq.mpr c4
      have c4b1 : (a0_1.toList != a1_1.toList) = false := bne_eq_false_iff_eq.mpr c4
      clear c4
      by_cases c5 : a0_2 = a1_2
      · rw [if_pos c5] at H
        have c5b0 : (a0_2 == a1_2) = true := beq_iff_eq.mpr c5
        have c5b1 : (a0_2 != a1_2) = false := bne_eq_false_iff_eq.mpr c5
        clear c5
        by_cases c6 : a0_3 = a1_3
        · rw [if_pos c6] at H
          have c6b0 : (a0_3 == a1_3) = true := beq_iff_eq.mpr c6
          have c6b1 : (a0_3 != a1_3) = false := bne_eq_false_iff_eq.mpr c6
          clear c6
          obtain rfl := Option.some.inj H
          go_enter Try.func157, Try.ntmps157
          go_wp2_with (first | ((with_reducible refine gate_dst (N := 2) rfl ?_); refine bxe (N := 2) (cs := #[.int .i64 a0_0, .string a0_1, .int .i64 a0_2, .int .i64 a0_3]) (t := 40) ?_; intro gb414 hg w7 hbox hb; have BK414 := Aside0.mk (hbox); have GW414 := an2 HB hg; have GE414 := an2 HB hg; replace HB := an0 HB hb; clear hb hbox hg) | ((with_reducible refine gate_dst (N := 3) rfl ?_); refine bxe (N := 3) (cs := #[.int .i64 a1_0, .string a1_1, .int .i64 a1_2, .int .i64 a1_3]) (t := 40) ?_; intro gb415 hg w8 hbox hb; have BK415 := Aside0.mk (hbox); have GW415 := an2 HB hg; have GE415 := an2 HB hg; have NB414_415 := an3 BK414 hg; have NB415_414 := an4 BK414 hg; replace BK414 := an1 BK414 hb; replace HB := an0 HB hb; clear hb hbox hg; have hnb9 := NB414_415.out; have hnc9 := NB415_414.out; obtain ⟨hcz10_0, hcz10_1, hcz10_2, hcz10_3, hfz10_0, hfz10_1, hfz10_2, hfz10_3⟩ := cl4 BK414; obtain ⟨hcz11_0, hcz11_1, hcz11_2, hcz11_3, hfz11_0, hfz11_1, hfz11_2, hfz11_3⟩ := cl4 BK415))
          go_ret
          exact ⟨fe, bp HB.out⟩
        · rw [if_neg c6] at H
          have c6b0 : (a0_3 == a1_3) = false := beq_eq_false_iff_ne.mpr c6
          have c6b1 : (a0_3 != a1_3) = true := bne_iff_ne.mpr c6
          obtain rfl := Option.some.inj H
          go_enter Try.func157, Try.ntmps157
          go_wp2_with (first | ((with_reducible refine gate_dst (N := 2) rfl ?_); refine bxe (N := 2) (cs := #[.int .i64 a0_0, .string a0_1, .int .i64 a0_2, .int .i64 a0_3]) (t := 40) ?_; intro gb414 hg w12 hbox hb; have BK414 := Aside0.mk (hbox); have GW414 := an2 HB hg; have GE414 := an2 HB hg; replace HB := an0 HB hb; clear hb hbox hg) | ((with_reducible refine gate_dst (N := 3) rfl ?_); refine bxe (N := 3) (cs := #[.int .i64 a1_0, .string a1_1, .int .i64 a1_2, .int .i64 a1_3]) (t := 40) ?_; intro gb415 hg w13 hbox hb; have BK415 := Aside0.mk (hbox); have GW415 := an2 HB hg; have GE415 := an2 HB hg; have NB414_415 := an3 BK414 hg; have NB415_414 := an4 BK414 hg; replace BK414 := an1 BK414 hb; replace HB := an0 HB hb; clear hb hbox hg; have hnb14 := NB414_415.out; have hnc14 := NB415_414.out; obtain ⟨hcz15_0, hcz15_1, hcz15_2, hcz15_3, hfz15_0, hfz15_1, hfz15_2, hfz15_3⟩ := cl4 BK414; obtain ⟨hcz16_0, hcz16_1, hcz16_2, hcz16_3, hfz16_0, hfz16_1, hfz16_2, hfz16_3⟩ := cl4 BK415))
          go_ret
          exact ⟨fe, bp HB.out⟩
      · rw [if_neg c5] at H
        have c5b0 : (a0_2 == a1_2) = false := beq_eq_false_iff_ne.mpr c5
        have c5b1 : (a0_2 != a1_2) = true := bne_iff_ne.mpr c5
        obtain rfl := Option.some.inj H
        go_enter Try.func157, Try.ntmps157
        go_wp2_with (first | ((with_reducible refine gate_dst (N := 2) rfl ?_); refine bxe (N := 2) (cs := #[.int .i64 a0_0, .string a0_1, .int .i64 a0_2, .int .i64 a0_3]) (t := 40) ?_; intro gb414 hg w17 hbox hb; have BK414 := Aside0.mk (hbox); have GW414 := an2 HB hg; have GE414 := an2 HB hg; replace HB := an0 HB hb; clear hb hbox hg) | ((with_reducible refine gate_dst (N := 3) rfl ?_); refine bxe (N := 3) (cs := #[.int .i64 a1_0, .string a1_1, .int .i64 a1_2, .int .i64 a1_3]) (t := 40) ?_; intro gb415 hg w18 hbox hb; have BK415 := Aside0.mk (hbox); have GW415 := an2 HB hg; have GE415 := an2 HB hg; have NB414_415 := an3 BK414 hg; have NB415_414 := an4 BK414 hg; replace BK414 := an1 BK414 hb; replace HB := an0 HB hb; clear hb hbox hg; have hnb19 := NB414_415.out; have hnc19 := NB415_414.out; obtain ⟨hcz20_0, hcz20_1, hcz20_2, hcz20_3, hfz20_0, hfz20_1, hfz20_2, hfz20_3⟩ := cl4 BK414; obtain ⟨hcz21_0, hcz21_1, hcz21_2, hcz21_3, hfz21_0, hfz21_1, hfz21_2, hfz21_3⟩ := cl4 BK415))
        go_ret
        exact ⟨fe, bp HB.out⟩
    · rw [if_neg c4] at H
      have c4b0 : (a0_1.toList == a1_1.toList) = false := beq_eq_false_iff_ne.mpr c4
      have c4b1 : (a0_1.toList != a1_1.toList) = true := bne_iff_ne.mpr c4
      obtain rfl := Option.some.inj H
      go_enter Try.func157, Try.ntmps157
      go_wp2_with (first | ((with_reducible refine gate_dst (N := 2) rfl ?_); refine bxe (N := 2) (cs := #[.int .i64 a0_0, .string a0_1, .int .i64 a0_2, .int .i64 a0_3]) (t := 40) ?_; intro gb414 hg w22 hbox hb; have BK414 := Aside0.mk (hbox); have GW414 := an2 HB hg; have GE414 := an2 HB hg; replace HB := an0 HB hb; clear hb hbox hg) | ((with_reducible refine gate_dst (N := 3) rfl ?_); refine bxe (N := 3) (cs := #[.int .i64 a1_0, .string a1_1, .int .i64 a1_2, .int .i64 a1_3]) (t := 40) ?_; intro gb415 hg w23 hbox hb; have BK415 := Aside0.mk (hbox); have GW415 := an2 HB hg; have GE415 := an2 HB hg; have NB414_415 := an3 BK414 hg; have NB415_414 := an4 BK414 hg; replace BK414 := an1 BK414 hb; replace HB := an0 HB hb; clear hb hbox hg; have hnb24 := NB414_415.out; have hnc24 := NB415_414.out; obtain ⟨hcz25_0, hcz25_1, hcz25_2, hcz25_3, hfz25_0, hfz25_1, hfz25_2, hfz25_3⟩ := cl4 BK414; obtain ⟨hcz26_0, hcz26_1, hcz26_2, hcz26_3, hfz26_0, hfz26_1, hfz26_2, hfz26_3⟩ := cl4 BK415))
      go_ret
      exact ⟨fe, bp HB.out⟩
  · rw [if_neg c3] at H
    have c3b0 : (a0_0 == a1_0) = false := beq_eq_false_iff_ne.mpr c3
    have c3b1 : (a0_0 != a1_0) = true := bne_iff_ne.mpr c3
    obtain rfl := Option.some.inj H
    go_enter Try.func157, Try.ntmps157
    go_wp2_with (first | ((with_reducible refine gate_dst (N := 2) rfl ?_); refine bxe (N := 2) (cs := #[.int .i64 a0_0, .string a0_1, .int .i64 a0_2, .int .i64 a0_3]) (t := 40) ?_; intro gb414 hg w27 hbox hb; have BK414 := Aside0.mk (hbox); have GW414 := an2 HB hg; have GE414 := an2 HB hg; replace HB := an0 HB hb; clear hb hbox hg) | ((with_reducible refine gate_dst (N := 3) rfl ?_); refine bxe (N := 3) (cs := #[.int .i64 a1_0, .string a1_1, .int .i64 a1_2, .int .i64 a1_3]) (t := 40) ?_; intro gb415 hg w28 hbox hb; have BK415 := Aside0.mk (hbox); have GW415 := an2 HB hg; have GE415 := an2 HB hg; have NB414_415 := an3 BK414 hg; have NB415_414 := an4 BK414 hg; replace BK414 := an1 BK414 hb; replace HB := an0 HB hb; clear hb hbox hg; have hnb29 := NB414_415.out; have hnc29 := NB415_414.out; obtain ⟨hcz30_0, hcz30_1, hcz30_2, hcz30_3, hfz30_0, hfz30_1, hfz30_2, hfz30_3⟩ := cl4 BK414; obtain ⟨hcz31_0, hcz31_1, hcz31_2, hcz31_3, hfz31_0, hfz31_1, hfz31_2, hfz31_3⟩ := cl4 BK415))
    go_ret
    exact ⟨fe, bp HB.out⟩

/-! ### laws_eqResult: function 121 -/
def laws_eqResult.f (a0_0 : Int) (a0_1 : Int) (a0_2 : Int) (a0_3 : ByteArray) (a0_4 : Int) (a0_5 : Int) (a0_6 : Int) (a0_7 : Int) (a0_8 : Int) (a1_0 : Int) (a1_1 : Int) (a1_2 : Int) (a1_3 : ByteArray) (a1_4 : Int) (a1_5 : Int) (a1_6 : Int) (a1_7 : Int) (a1_8 : Int) : Option (Bool) := if a0_0 = a1_0 then (if a0_1 = a1_1 then ((laws_eqCommand.f a0_2 a0_3 a0_4 a0_5 a1_2 a1_3 a1_4 a1_5).bind fun t418 => (if t418 = true then (if a0_6 = a1_6 then (if a0_7 = a1_7 then (if a0_8 = a1_8 then (some true) else (some false)) else (some false)) else (some false)) else (some false))) else (some false)) else (some false)
set_option maxHeartbeats 8000000 in
set_option maxRecDepth 100000 in
theorem laws_eqResult.calls (a0_0 : Int) (a0_1 : Int) (a0_2 : Int) (a0_3 : ByteArray) (a0_4 : Int) (a0_5 : Int) (a0_6 : Int) (a0_7 : Int) (a0_8 : Int) (a1_0 : Int) (a1_1 : Int) (a1_2 : Int) (a1_3 : ByteArray) (a1_4 : Int) (a1_5 : Int) (a1_6 : Int) (a1_7 : Int) (a1_8 : Int) (r : Bool) (w : World) (h : laws_eqResult.f a0_0 a0_1 a0_2 a0_3 a0_4 a0_5 a0_6 a0_7 a0_8 a1_0 a1_1 a1_2 a1_3 a1_4 a1_5 a1_6 a1_7 a1_8 = some r) :
    Calls Try.prog 121 #[.agg #[.int .i64 a0_0, .int .i64 a0_1, .int .i64 a0_2, .string a0_3, .int .i64 a0_4, .int .i64 a0_5, .int .i64 a0_6, .int .i64 a0_7, .int .i64 a0_8], .agg #[.int .i64 a1_0, .int .i64 a1_1, .int .i64 a1_2, .string a1_3, .int .i64 a1_4, .int .i64 a1_5, .int .i64 a1_6, .int .i64 a1_7, .int .i64 a1_8]] w fun e w' => e = .returned (.bool r) ∧ Below w.heap.size w w' := by
  have hu42 := Try.underlying42
  have hu40 := Try.underlying40
  have HB := Aside0.mk (Below.refl w.heap.size w)
  have H : (if a0_0 = a1_0 then (if a0_1 = a1_1 then ((laws_eqCommand.f a0_2 a0_3 a0_4 a0_5 a1_2 a1_3 a1_4 a1_5).bind fun t418 => (if t418 = true then (if a0_6 = a1_6 then (if a0_7 = a1_7 then (if a0_8 = a1_8 then (some true) else (some false)) else (some false)) else (some false)) else (some false))) else (some false)) else (some false)) = some r := h
  clear h
  by_cases c3 : a0_0 = a1_0
  · rw [if_pos c3] at H
    have c3b0 : (a0_0 == a1_0) = true := beq_iff_eq.mpr c3
    have c3b1 : (a0_0 != a1_0) = false := bne_eq_false_iff_eq.mpr c3
    clear c3
    by_cases c4 : a0_1 = a1_1
    · rw [if_pos c4] at H
      have c4b0 : (a0_1 == a1_1) = true := beq_iff_eq.mpr c4
      have c4b1 : (a0_1 != a1_1) = false := bne_eq_false_iff_eq.mpr c4
      clear c4
      replace H := Option.bind_eq_some_iff.mp H
      obtain ⟨t418, A50, H⟩ := H
      replace H : (if t418 = true then (if a0_6 = a1_6 then (if a0_7 = a1_7 then (if a0_8 = a1_8 then (some true) else (some false)) else (some false)) else (some false)) else (some false)) = some r := H
      have A5 := Aside0.mk A50
      clear A50
      by_cases c6 : t418 = true
      · subst c6
        have H1 : (if a0_6 = a1_6 then (if a0_7 = a1_7 then (if a0_8 = a1_8 then (some true) else (some false)) else (some false)) else (some false)) = some r := by rw [if_pos rfl] at H; exact H
        clear H
        have H := H1
        clear H1
        by_cases c7 : a0_6 = a1_6
        · rw [if_pos c7] at H
          have c7b0 : (a0_6 == a1_6) = true := beq_iff_eq.mpr c7
          have c7b1 : (a0_6 != a1_6) = false := bne_eq_false_iff_eq.mpr c7
          clear c7
          by_cases c8 : a0_7 = a1_7
          · rw [if_pos c8] at H
            have c8b0 : (a0_7 == a1_7) = true := beq_iff_eq.mpr c8
            have c8b1 : (a0_7 != a1_7) = false := bne_eq_false_iff_eq.mpr c8
            clear c8
            by_cases c9 : a0_8 = a1_8
            · rw [if_pos c9] at H
              have c9b0 : (a0_8 == a1_8) = true := beq_iff_eq.mpr c9
              have c9b1 : (a0_8 != a1_8) = false := bne_eq_false_iff_eq.mpr c9
              clear c9
              obtain rfl := Option.some.inj H
              go_enter Try.func121, Try.ntmps121
              go_wp2_with (first | ((with_reducible refine gate_dst (N := 2) rfl ?_); refine bxe (N := 2) (cs := #[.int .i64 a0_0, .int .i64 a0_1, .int .i64 a0_2, .string a0_3, .int .i64 a0_4, .int .i64 a0_5, .int .i64 a0_6, .int .i64 a0_7, .int .i64 a0_8]) (t := 42) ?_; intro gb416 hg w10 hbox hb; have BK416 := Aside0.mk (hbox); have GW416 := an2 HB hg; have GE416 := an2 HB hg; replace HB := an0 HB hb; clear hb hbox hg) | ((with_reducible refine gate_dst (N := 3) rfl ?_); refine bxe (N := 3) (cs := #[.int .i64 a1_0, .int .i64 a1_1, .int .i64 a1_2, .string a1_3, .int .i64 a1_4, .int .i64 a1_5, .int .i64 a1_6, .int .i64 a1_7, .int .i64 a1_8]) (t := 42) ?_; intro gb417 hg w11 hbox hb; have BK417 := Aside0.mk (hbox); have GW417 := an2 HB hg; have GE417 := an2 HB hg; have NB416_417 := an3 BK416 hg; have NB417_416 := an4 BK416 hg; replace BK416 := an1 BK416 hb; replace HB := an0 HB hb; clear hb hbox hg; have hnb12 := NB416_417.out; have hnc12 := NB417_416.out; obtain ⟨hcz13_0, hcz13_1, hcz13_2, hcz13_3, hcz13_4, hcz13_5, hcz13_6, hcz13_7, hcz13_8, hfz13_0, hfz13_1, hfz13_2, hfz13_3, hfz13_4, hfz13_5, hfz13_6, hfz13_7, hfz13_8⟩ := cl9 BK416; obtain ⟨hcz14_0, hcz14_1, hcz14_2, hcz14_3, hcz14_4, hcz14_5, hcz14_6, hcz14_7, hcz14_8, hfz14_0, hfz14_1, hfz14_2, hfz14_3, hfz14_4, hfz14_5, hfz14_6, hfz14_7, hfz14_8⟩ := cl9 BK417) | ((with_reducible refine gate_callee (f := 157) rfl ?_); refine gsl (some 19) rfl Try.func157 #[.agg #[.int .i64 a0_2, .string a0_3, .int .i64 a0_4, .int .i64 a0_5], .agg #[.int .i64 a1_2, .string a1_3, .int .i64 a1_4, .int .i64 a1_5]] rfl ?_; (with_reducible refine (laws_eqCommand.calls a0_2 a0_3 a0_4 a0_5 a1_2 a1_3 a1_4 a1_5 true _ A5.out).mono ?_); rintro e w15 ⟨rfl, hb⟩; refine ⟨_, rfl, ?_⟩; replace BK416 := an1 BK416 hb; replace BK417 := an1 BK417 hb; replace HB := an0 HB hb; (try clear hb); (try clear hb2); (try clear hk); (try clear hi); obtain ⟨hcz16_0, hcz16_1, hcz16_2, hcz16_3, hcz16_4, hcz16_5, hcz16_6, hcz16_7, hcz16_8, hfz16_0, hfz16_1, hfz16_2, hfz16_3, hfz16_4, hfz16_5, hfz16_6, hfz16_7, hfz16_8⟩ := cl9 BK416; obtain ⟨hcz17_0, hcz17_1, hcz17_2, hcz17_3, hcz17_4, hcz17_5, hcz17_6, hcz17_7, hcz17_8, hfz17_0, hfz17_1, hfz17_2, hfz17_3, hfz17_4, hfz17_5, hfz17_6, hfz17_7, hfz17_8⟩ := cl9 BK417))
              go_ret
              exact ⟨fe, bp HB.out⟩
            · rw [if_neg c9] at H
              have c9b0 : (a0_8 == a1_8) = false := beq_eq_false_iff_ne.mpr c9
              have c9b1 : (a0_8 != a1_8) = true := bne_iff_ne.mpr c9
              obtain rfl := Option.some.inj H
              go_enter Try.func121, Try.ntmps121
              go_wp2_with (first | ((with_reducible refine gate_dst (N := 2) rfl ?_); refine bxe (N := 2) (cs := #[.int .i64 a0_0, .int .i64 a0_1, .int .i64 a0_2, .string a0_3, .int .i64 a0_4, .int .i64 a0_5, .int .i64 a0_6, .int .i64 a0_7, .int .i64 a0_8]) (t := 42) ?_; intro gb416 hg w18 hbox hb; have BK416 := Aside0.mk (hbox); have GW416 := an2 HB hg; have GE416 := an2 HB hg; replace HB := an0 HB hb; clear hb hbox hg) | ((with_reducible refine gate_dst (N := 3) rfl ?_); refine bxe (N := 3) (cs := #[.int .i64 a1_0, .int .i64 a1_1, .int .i64 a1_2, .string a1_3, .int .i64 a1_4, .int .i64 a1_5, .int .i64 a1_6, .int .i64 a1_7, .int .i64 a1_8]) (t := 42) ?_; intro gb417 hg w19 hbox hb; have BK417 := Aside0.mk (hbox); have GW417 := an2 HB hg; have GE417 := an2 HB hg; have NB416_417 := an3 BK416 hg; have NB417_416 := an4 BK416 hg; replace BK416 := an1 BK416 hb; replace HB := an0 HB hb; clear hb hbox hg; have hnb20 := NB416_417.out; have hnc20 := NB417_416.out; obtain ⟨hcz21_0, hcz21_1, hcz21_2, hcz21_3, hcz21_4, hcz21_5, hcz21_6, hcz21_7, hcz21_8, hfz21_0, hfz21_1, hfz21_2, hfz21_3, hfz21_4, hfz21_5, hfz21_6, hfz21_7, hfz21_8⟩ := cl9 BK416; obtain ⟨hcz22_0, hcz22_1, hcz22_2, hcz22_3, hcz22_4, hcz22_5, hcz22_6, hcz22_7, hcz22_8, hfz22_0, hfz22_1, hfz22_2, hfz22_3, hfz22_4, hfz22_5, hfz22_6, hfz22_7, hfz22_8⟩ := cl9 BK417) | ((with_reducible refine gate_callee (f := 157) rfl ?_); refine gsl (some 19) rfl Try.func157 #[.agg #[.int .i64 a0_2, .string a0_3, .int .i64 a0_4, .int .i64 a0_5], .agg #[.int .i64 a1_2, .string a1_3, .int .i64 a1_4, .int .i64 a1_5]] rfl ?_; (with_reducible refine (laws_eqCommand.calls a0_2 a0_3 a0_4 a0_5 a1_2 a1_3 a1_4 a1_5 true _ A5.out).mono ?_); rintro e w23 ⟨rfl, hb⟩; refine ⟨_, rfl, ?_⟩; replace BK416 := an1 BK416 hb; replace BK417 := an1 BK417 hb; replace HB := an0 HB hb; (try clear hb); (try clear hb2); (try clear hk); (try clear hi); obtain ⟨hcz24_0, hcz24_1, hcz24_2, hcz24_3, hcz24_4, hcz24_5, hcz24_6, hcz24_7, hcz24_8, hfz24_0, hfz24_1, hfz24_2, hfz24_3, hfz24_4, hfz24_5, hfz24_6, hfz24_7, hfz24_8⟩ := cl9 BK416; obtain ⟨hcz25_0, hcz25_1, hcz25_2, hcz25_3, hcz25_4, hcz25_5, hcz25_6, hcz25_7, hcz25_8, hfz25_0, hfz25_1, hfz25_2, hfz25_3, hfz25_4, hfz25_5, hfz25_6, hfz25_7, hfz25_8⟩ := cl9 BK417))
              go_ret
              exact ⟨fe, bp HB.out⟩
          · rw [if_neg c8] at H
            have c8b0 : (a0_7 == a1_7) = false := beq_eq_false_iff_ne.mpr c8
            have c8b1 : (a0_7 != a1_7) = true := bne_iff_ne.mpr c8
            obtain rfl := Option.some.inj H
            go_enter Try.func121, Try.ntmps121
            go_wp2_with (first | ((with_reducible refine gate_dst (N := 2) rfl ?_); refine bxe (N := 2) (cs := #[.int .i64 a0_0, .int .i64 a0_1, .int .i64 a0_2, .string a0_3, .int .i64 a0_4, .int .i64 a0_5, .int .i64 a0_6, .int .i64 a0_7, .int .i64 a0_8]) (t := 42) ?_; intro gb416 hg w26 hbox hb; have BK416 := Aside0.mk (hbox); have GW416 := an2 HB hg; have GE416 := an2 HB hg; replace HB := an0 HB hb; clear hb hbox hg) | ((with_reducible refine gate_dst (N := 3) rfl ?_); refine bxe (N := 3) (cs := #[.int .i64 a1_0, .int .i64 a1_1, .int .i64 a1_2, .string a1_3, .int .i64 a1_4, .int .i64 a1_5, .int .i64 a1_6, .int .i64 a1_7, .int .i64 a1_8]) (t := 42) ?_; intro gb417 hg w27 hbox hb; have BK417 := Aside0.mk (hbox); have GW417 := an2 HB hg; have GE417 := an2 HB hg; have NB416_417 := an3 BK416 hg; have NB417_416 := an4 BK416 hg; replace BK416 := an1 BK416 hb; replace HB := an0 HB hb; clear hb hbox hg; have hnb28 := NB416_417.out; have hnc28 := NB417_416.out; obtain ⟨hcz29_0, hcz29_1, hcz29_2, hcz29_3, hcz29_4, hcz29_5, hcz29_6, hcz29_7, hcz29_8, hfz29_0, hfz29_1, hfz29_2, hfz29_3, hfz29_4, hfz29_5, hfz29_6, hfz29_7, hfz29_8⟩ := cl9 BK416; obtain ⟨hcz30_0, hcz30_1, hcz30_2, hcz30_3, hcz30_4, hcz30_5, hcz30_6, hcz30_7, hcz30_8, hfz30_0, hfz30_1, hfz30_2, hfz30_3, hfz30_4, hfz30_5, hfz30_6, hfz30_7, hfz30_8⟩ := cl9 BK417) | ((with_reducible refine gate_callee (f := 157) rfl ?_); refine gsl (some 19) rfl Try.func157 #[.agg #[.int .i64 a0_2, .string a0_3, .int .i64 a0_4, .int .i64 a0_5], .agg #[.int .i64 a1_2, .string a1_3, .int .i64 a1_4, .int .i64 a1_5]] rfl ?_; (with_reducible refine (laws_eqCommand.calls a0_2 a0_3 a0_4 a0_5 a1_2 a1_3 a1_4 a1_5 true _ A5.out).mono ?_); rintro e w31 ⟨rfl, hb⟩; refine ⟨_, rfl, ?_⟩; replace BK416 := an1 BK416 hb; replace BK417 := an1 BK417 hb; replace HB := an0 HB hb; (try clear hb); (try clear hb2); (try clear hk); (try clear hi); obtain ⟨hcz32_0, hcz32_1, hcz32_2, hcz32_3, hcz32_4, hcz32_5, hcz32_6, hcz32_7, hcz32_8, hfz32_0, hfz32_1, hfz32_2, hfz32_3, hfz32_4, hfz32_5, hfz32_6, hfz32_7, hfz32_8⟩ := cl9 BK416; obtain ⟨hcz33_0, hcz33_1, hcz33_2, hcz33_3, hcz33_4, hcz33_5, hcz33_6, hcz33_7, hcz33_8, hfz33_0, hfz33_1, hfz33_2, hfz33_3, hfz33_4, hfz33_5, hfz33_6, hfz33_7, hfz33_8⟩ := cl9 BK417))
            go_ret
            exact ⟨fe, bp HB.out⟩
        · rw [if_neg c7] at H
          have c7b0 : (a0_6 == a1_6) = false := beq_eq_false_iff_ne.mpr c7
          have c7b1 : (a0_6 != a1_6) = true := bne_iff_ne.mpr c7
          obtain rfl := Option.some.inj H
          go_enter Try.func121, Try.ntmps121
          go_wp2_with (first | ((with_reducible refine gate_dst (N := 2) rfl ?_); refine bxe (N := 2) (cs := #[.int .i64 a0_0, .int .i64 a0_1, .int .i64 a0_2, .string a0_3, .int .i64 a0_4, .int .i64 a0_5, .int .i64 a0_6, .int .i64 a0_7, .int .i64 a0_8]) (t := 42) ?_; intro gb416 hg w34 hbox hb; have BK416 := Aside0.mk (hbox); have GW416 := an2 HB hg; have GE416 := an2 HB hg; replace HB := an0 HB hb; clear hb hbox hg) | ((with_reducible refine gate_dst (N := 3) rfl ?_); refine bxe (N := 3) (cs := #[.int .i64 a1_0, .int .i64 a1_1, .int .i64 a1_2, .string a1_3, .int .i64 a1_4, .int .i64 a1_5, .int .i64 a1_6, .int .i64 a1_7, .int .i64 a1_8]) (t := 42) ?_; intro gb417 hg w35 hbox hb; have BK417 := Aside0.mk (hbox); have GW417 := an2 HB hg; have GE417 := an2 HB hg; have NB416_417 := an3 BK416 hg; have NB417_416 := an4 BK416 hg; replace BK416 := an1 BK416 hb; replace HB := an0 HB hb; clear hb hbox hg; have hnb36 := NB416_417.out; have hnc36 := NB417_416.out; obtain ⟨hcz37_0, hcz37_1, hcz37_2, hcz37_3, hcz37_4, hcz37_5, hcz37_6, hcz37_7, hcz37_8, hfz37_0, hfz37_1, hfz37_2, hfz37_3, hfz37_4, hfz37_5, hfz37_6, hfz37_7, hfz37_8⟩ := cl9 BK416; obtain ⟨hcz38_0, hcz38_1, hcz38_2, hcz38_3, hcz38_4, hcz38_5, hcz38_6, hcz38_7, hcz38_8, hfz38_0, hfz38_1, hfz38_2, hfz38_3, hfz38_4, hfz38_5, hfz38_6, hfz38_7, hfz38_8⟩ := cl9 BK417) | ((with_reducible refine gate_callee (f := 157) rfl ?_); refine gsl (some 19) rfl Try.func157 #[.agg #[.int .i64 a0_2, .string a0_3, .int .i64 a0_4, .int .i64 a0_5], .agg #[.int .i64 a1_2, .string a1_3, .int .i64 a1_4, .int .i64 a1_5]] rfl ?_; (with_reducible refine (laws_eqCommand.calls a0_2 a0_3 a0_4 a0_5 a1_2 a1_3 a1_4 a1_5 true _ A5.out).mono ?_); rintro e w39 ⟨rfl, hb⟩; refine ⟨_, rfl, ?_⟩; replace BK416 := an1 BK416 hb; replace BK417 := an1 BK417 hb; replace HB := an0 HB hb; (try clear hb); (try clear hb2); (try clear hk); (try clear hi); obtain ⟨hcz40_0, hcz40_1, hcz40_2, hcz40_3, hcz40_4, hcz40_5, hcz40_6, hcz40_7, hcz40_8, hfz40_0, hfz40_1, hfz40_2, hfz40_3, hfz40_4, hfz40_5, hfz40_6, hfz40_7, hfz40_8⟩ := cl9 BK416; obtain ⟨hcz41_0, hcz41_1, hcz41_2, hcz41_3, hcz41_4, hcz41_5, hcz41_6, hcz41_7, hcz41_8, hfz41_0, hfz41_1, hfz41_2, hfz41_3, hfz41_4, hfz41_5, hfz41_6, hfz41_7, hfz41_8⟩ := cl9 BK417))
          go_ret
          exact ⟨fe, bp HB.out⟩
      · replace c6 := Bool.eq_false_iff.mpr c6
        subst c6
        have H1 : (some false) = some r := by rw [if_neg (show ¬ (false = true) by decide)] at H; exact H
        clear H
        have H := H1
        clear H1
        obtain rfl := Option.some.inj H
        go_enter Try.func121, Try.ntmps121
        go_wp2_with (first | ((with_reducible refine gate_dst (N := 2) rfl ?_); refine bxe (N := 2) (cs := #[.int .i64 a0_0, .int .i64 a0_1, .int .i64 a0_2, .string a0_3, .int .i64 a0_4, .int .i64 a0_5, .int .i64 a0_6, .int .i64 a0_7, .int .i64 a0_8]) (t := 42) ?_; intro gb416 hg w42 hbox hb; have BK416 := Aside0.mk (hbox); have GW416 := an2 HB hg; have GE416 := an2 HB hg; replace HB := an0 HB hb; clear hb hbox hg) | ((with_reducible refine gate_dst (N := 3) rfl ?_); refine bxe (N := 3) (cs := #[.int .i64 a1_0, .int .i64 a1_1, .int .i64 a1_2, .string a1_3, .int .i64 a1_4, .int .i64 a1_5, .int .i64 a1_6, .int .i64 a1_7, .int .i64 a1_8]) (t := 42) ?_; intro gb417 hg w43 hbox hb; have BK417 := Aside0.mk (hbox); have GW417 := an2 HB hg; have GE417 := an2 HB hg; have NB416_417 := an3 BK416 hg; have NB417_416 := an4 BK416 hg; replace BK416 := an1 BK416 hb; replace HB := an0 HB hb; clear hb hbox hg; have hnb44 := NB416_417.out; have hnc44 := NB417_416.out; obtain ⟨hcz45_0, hcz45_1, hcz45_2, hcz45_3, hcz45_4, hcz45_5, hcz45_6, hcz45_7, hcz45_8, hfz45_0, hfz45_1, hfz45_2, hfz45_3, hfz45_4, hfz45_5, hfz45_6, hfz45_7, hfz45_8⟩ := cl9 BK416; obtain ⟨hcz46_0, hcz46_1, hcz46_2, hcz46_3, hcz46_4, hcz46_5, hcz46_6, hcz46_7, hcz46_8, hfz46_0, hfz46_1, hfz46_2, hfz46_3, hfz46_4, hfz46_5, hfz46_6, hfz46_7, hfz46_8⟩ := cl9 BK417) | ((with_reducible refine gate_callee (f := 157) rfl ?_); refine gsl (some 19) rfl Try.func157 #[.agg #[.int .i64 a0_2, .string a0_3, .int .i64 a0_4, .int .i64 a0_5], .agg #[.int .i64 a1_2, .string a1_3, .int .i64 a1_4, .int .i64 a1_5]] rfl ?_; (with_reducible refine (laws_eqCommand.calls a0_2 a0_3 a0_4 a0_5 a1_2 a1_3 a1_4 a1_5 false _ A5.out).mono ?_); rintro e w47 ⟨rfl, hb⟩; refine ⟨_, rfl, ?_⟩; replace BK416 := an1 BK416 hb; replace BK417 := an1 BK417 hb; replace HB := an0 HB hb; (try clear hb); (try clear hb2); (try clear hk); (try clear hi)))
        go_ret
        exact ⟨fe, bp HB.out⟩
    · rw [if_neg c4] at H
      have c4b0 : (a0_1 == a1_1) = false := beq_eq_false_iff_ne.mpr c4
      have c4b1 : (a0_1 != a1_1) = true := bne_iff_ne.mpr c4
      obtain rfl := Option.some.inj H
      go_enter Try.func121, Try.ntmps121
      go_wp2_with (first | ((with_reducible refine gate_dst (N := 2) rfl ?_); refine bxe (N := 2) (cs := #[.int .i64 a0_0, .int .i64 a0_1, .int .i64 a0_2, .string a0_3, .int .i64 a0_4, .int .i64 a0_5, .int .i64 a0_6, .int .i64 a0_7, .int .i64 a0_8]) (t := 42) ?_; intro gb416 hg w48 hbox hb; have BK416 := Aside0.mk (hbox); have GW416 := an2 HB hg; have GE416 := an2 HB hg; replace HB := an0 HB hb; clear hb hbox hg) | ((with_reducible refine gate_dst (N := 3) rfl ?_); refine bxe (N := 3) (cs := #[.int .i64 a1_0, .int .i64 a1_1, .int .i64 a1_2, .string a1_3, .int .i64 a1_4, .int .i64 a1_5, .int .i64 a1_6, .int .i64 a1_7, .int .i64 a1_8]) (t := 42) ?_; intro gb417 hg w49 hbox hb; have BK417 := Aside0.mk (hbox); have GW417 := an2 HB hg; have GE417 := an2 HB hg; have NB416_417 := an3 BK416 hg; have NB417_416 := an4 BK416 hg; replace BK416 := an1 BK416 hb; replace HB := an0 HB hb; clear hb hbox hg; have hnb50 := NB416_417.out; have hnc50 := NB417_416.out; obtain ⟨hcz51_0, hcz51_1, hcz51_2, hcz51_3, hcz51_4, hcz51_5, hcz51_6, hcz51_7, hcz51_8, hfz51_0, hfz51_1, hfz51_2, hfz51_3, hfz51_4, hfz51_5, hfz51_6, hfz51_7, hfz51_8⟩ := cl9 BK416; obtain ⟨hcz52_0, hcz52_1, hcz52_2, hcz52_3, hcz52_4, hcz52_5, hcz52_6, hcz52_7, hcz52_8, hfz52_0, hfz52_1, hfz52_2, hfz52_3, hfz52_4, hfz52_5, hfz52_6, hfz52_7, hfz52_8⟩ := cl9 BK417))
      go_ret
      exact ⟨fe, bp HB.out⟩
  · rw [if_neg c3] at H
    have c3b0 : (a0_0 == a1_0) = false := beq_eq_false_iff_ne.mpr c3
    have c3b1 : (a0_0 != a1_0) = true := bne_iff_ne.mpr c3
    obtain rfl := Option.some.inj H
    go_enter Try.func121, Try.ntmps121
    go_wp2_with (first | ((with_reducible refine gate_dst (N := 2) rfl ?_); refine bxe (N := 2) (cs := #[.int .i64 a0_0, .int .i64 a0_1, .int .i64 a0_2, .string a0_3, .int .i64 a0_4, .int .i64 a0_5, .int .i64 a0_6, .int .i64 a0_7, .int .i64 a0_8]) (t := 42) ?_; intro gb416 hg w53 hbox hb; have BK416 := Aside0.mk (hbox); have GW416 := an2 HB hg; have GE416 := an2 HB hg; replace HB := an0 HB hb; clear hb hbox hg) | ((with_reducible refine gate_dst (N := 3) rfl ?_); refine bxe (N := 3) (cs := #[.int .i64 a1_0, .int .i64 a1_1, .int .i64 a1_2, .string a1_3, .int .i64 a1_4, .int .i64 a1_5, .int .i64 a1_6, .int .i64 a1_7, .int .i64 a1_8]) (t := 42) ?_; intro gb417 hg w54 hbox hb; have BK417 := Aside0.mk (hbox); have GW417 := an2 HB hg; have GE417 := an2 HB hg; have NB416_417 := an3 BK416 hg; have NB417_416 := an4 BK416 hg; replace BK416 := an1 BK416 hb; replace HB := an0 HB hb; clear hb hbox hg; have hnb55 := NB416_417.out; have hnc55 := NB417_416.out; obtain ⟨hcz56_0, hcz56_1, hcz56_2, hcz56_3, hcz56_4, hcz56_5, hcz56_6, hcz56_7, hcz56_8, hfz56_0, hfz56_1, hfz56_2, hfz56_3, hfz56_4, hfz56_5, hfz56_6, hfz56_7, hfz56_8⟩ := cl9 BK416; obtain ⟨hcz57_0, hcz57_1, hcz57_2, hcz57_3, hcz57_4, hcz57_5, hcz57_6, hcz57_7, hcz57_8, hfz57_0, hfz57_1, hfz57_2, hfz57_3, hfz57_4, hfz57_5, hfz57_6, hfz57_7, hfz57_8⟩ := cl9 BK417))
    go_ret
    exact ⟨fe, bp HB.out⟩

/-! ### laws_eqResultS: function 69 -/
def laws_eqResultS.l0 : Nat → List (S42) → List (S42) → Int → Option (Bool)
  | 0, _, _, _ => none
  | k + 1, x0, x1, x5 => if x5 < (x0.length : Int) then (if 0 ≤ x5 then (if x5 < (x1.length : Int) then ((laws_eqResult.f ((rd_T42 x0 x5).f0) ((rd_T42 x0 x5).f1) ((rd_T42 x0 x5).f2.f0) ((rd_T42 x0 x5).f2.f1) ((rd_T42 x0 x5).f2.f2) ((rd_T42 x0 x5).f2.f3) ((rd_T42 x0 x5).f3) ((rd_T42 x0 x5).f4) ((rd_T42 x0 x5).f5) ((rd_T42 x1 x5).f0) ((rd_T42 x1 x5).f1) ((rd_T42 x1 x5).f2.f0) ((rd_T42 x1 x5).f2.f1) ((rd_T42 x1 x5).f2.f2) ((rd_T42 x1 x5).f2.f3) ((rd_T42 x1 x5).f3) ((rd_T42 x1 x5).f4) ((rd_T42 x1 x5).f5)).bind fun t421 => (if t421 = true then (laws_eqResultS.l0 k x0 x1 (wrap64 (x5 + 1))) else (some false))) else (none)) else (none)) else (some true)
def laws_eqResultS.f (k : Nat) (l0 : List (S42)) (l1 : List (S42)) : Option (Bool) := if (l0.length : Int) = (l1.length : Int) then (laws_eqResultS.l0 k l0 l1 0) else (some false)
theorem laws_eqResultS.mono_l : ∀ k, (∀ y0 y1 y2, LeO (laws_eqResultS.l0 k y0 y1 y2) (laws_eqResultS.l0 (k + 1) y0 y1 y2))
  | 0 => fun _ _ _ r h => by simp [laws_eqResultS.l0] at h
  | k + 1 => by
    have ih0 := laws_eqResultS.mono_l k
    · intro y0 y1 y2
      unfold laws_eqResultS.l0
      repeat' first
      | (with_reducible exact ih0 _ _ _)
      | (with_reducible exact LeO.refl _)
      | (with_reducible exact LeO.none _)
      | (with_reducible refine LeO.ite ?_ ?_)
      | (with_reducible refine LeO.bind ?_ (fun _ => ?_))
      | exact ih0 _ _ _
      | exact LeO.none _
      | refine LeO.ite ?_ ?_
      | refine LeO.bind ?_ (fun _ => ?_)
theorem laws_eqResultS.mono : ∀ a0 a1 k, LeO (laws_eqResultS.f k a0 a1) (laws_eqResultS.f (k + 1) a0 a1) := by
  intro a0 a1 k
  have ih0 := laws_eqResultS.mono_l k
  unfold laws_eqResultS.f
  repeat' first
      | (with_reducible exact ih0 _ _ _)
      | (with_reducible exact LeO.refl _)
      | (with_reducible exact LeO.none _)
      | (with_reducible refine LeO.ite ?_ ?_)
      | (with_reducible refine LeO.bind ?_ (fun _ => ?_))
      | exact ih0 _ _ _
      | exact LeO.none _
      | refine LeO.ite ?_ ?_
      | refine LeO.bind ?_ (fun _ => ?_)
def laws_eqResultS.T6 : Bool × List (List Nat × List Nat) := (true, [([], []), ([], []), ([0, 1], [0, 1]), ([2], [2]), ([], []), ([], []), ([4, 5], [4, 5]), ([6], [6]), ([3, 7], [3, 7]), ([8], [8])])
def laws_eqResultS.B6 : List Nat := [0, 0, 3, 7, 0, 0, 48, 112, 255, 511]
theorem laws_eqResultS.tab6 : rtab .any (opsOf Try.f69 6) = laws_eqResultS.T6 := by kernel_rfl
theorem laws_eqResultS.bits6 : waitsOk laws_eqResultS.T6.2 laws_eqResultS.B6 = true := by kernel_rfl
set_option maxHeartbeats 8000000 in
set_option maxRecDepth 100000 in
theorem laws_eqResultS.calls (k : Nat) (A0 : Option Addr) (c0 : Nat) (l0 : List (S42)) (A1 : Option Addr) (c1 : Nat) (l1 : List (S42)) (r : Bool) (w : World) (hr0 : Kd.C k42 w A0 l0.length l0) (hc0 : l0.length ≤ c0) (hr1 : Kd.C k42 w A1 l1.length l1) (hc1 : l1.length ≤ c1) (h : laws_eqResultS.f k l0 l1 = some r) :
    Calls Try.prog 69 #[.slice A0 l0.length c0, .slice A1 l1.length c1] w fun e w' => e = .returned (.bool r) ∧ Below w.heap.size w w' := by
  have hu42 := Try.underlying42
  have HR0 := Aside0.mk hr0
  have HC0 := Aside0.mk hc0
  clear hr0 hc0
  have HR1 := Aside0.mk hr1
  have HC1 := Aside0.mk hc1
  clear hr1 hc1
  have HB := Aside0.mk (Below.refl w.heap.size w)
  have H : (if (l0.length : Int) = (l1.length : Int) then (laws_eqResultS.l0 k l0 l1 0) else (some false)) = some r := h
  clear h
  by_cases c3 : (l0.length : Int) = (l1.length : Int)
  · rw [if_pos c3] at H
    have c3b0 : ((l0.length : Int) == (l1.length : Int)) = true := beq_iff_eq.mpr c3
    have c3b1 : ((l0.length : Int) != (l1.length : Int)) = false := bne_eq_false_iff_eq.mpr c3
    have c3b2 : (l0.length == l1.length) = true := by first | simpa using c3 | (simp at c3 ⊢; omega)
    clear c3
    have H' := Aside0.mk H
    clear H
    go_enter Try.func69, Try.ntmps69
    go_wp2
    go_loopg [5] k (fun kq v5 w' => ∃ (x5_1 : Int), v5 = .int .i64 x5_1 ∧ Aside0 (laws_eqResultS.l0 kq l0 l1 x5_1 = some r) ∧ Aside0 (kq ≤ k) ∧ Aside0 (Below w.heap.size w w'))
    case atStart => exact ⟨(0), (by first | rfl | (simp; done) | (simp [*]; done) | (simp [bne_nil_, beq_nil_]; done)), H', ⟨Nat.le_refl _⟩, ⟨bp HB.out⟩⟩
    case round =>
      clear H'
      try clear c1
      try clear p2
      try clear c3
      try clear c3b0
      try clear c3b1
      try clear c3b2
      obtain ⟨x5_1, rfl, HA, HK1, HB⟩ := hrel
      cases gk with
      | zero => exact absurd HA.out (by simp [laws_eqResultS.l0])
      | succ k1 =>
        have H := HA.out
        clear HA
        simp only [laws_eqResultS.l0] at H
        by_cases c4 : x5_1 < (l0.length : Int)
        · rw [if_pos c4] at H
          have c4b0 : decide (x5_1 < (l0.length : Int)) = true := decide_eq_true c4
          clear c4
          by_cases c5 : 0 ≤ x5_1
          · rw [if_pos c5] at H
            have c5b0 : decide (0 ≤ x5_1) = true := decide_eq_true c5
            clear c5
            by_cases c6 : x5_1 < (l1.length : Int)
            · rw [if_pos c6] at H
              have c6b0 : decide (x5_1 < (l1.length : Int)) = true := decide_eq_true c6
              clear c6
              replace H := Option.bind_eq_some_iff.mp H
              obtain ⟨t421, A70, H⟩ := H
              replace H : (if t421 = true then (laws_eqResultS.l0 k1 l0 l1 (wrap64 (x5_1 + 1))) else (some false)) = some r := H
              have A7 := Aside0.mk A70
              clear A70
              by_cases c8 : t421 = true
              · subst c8
                have H1 : (laws_eqResultS.l0 k1 l0 l1 (wrap64 (x5_1 + 1))) = some r := by rw [if_pos rfl] at H; exact H
                clear H
                have H := H1
                clear H1
                have H' := Aside0.mk H
                clear H
                try go_wp2
                have n0_ := Aside0.mk (below_drew1 HB.out)
                clear HB
                have HB := n0_
                clear n0_
                have p419 : 0 ≤ (x5_1 : Int) := of_decide_eq_true (by first | (with_reducible assumption) | assumption)
                have q419 : x5_1 < (l0.length : Int) := of_decide_eq_true (by first | (with_reducible assumption) | assumption)
                obtain ⟨ad419, e419, hx419_0, hx419_1, hx419_2, hx419_3, hx419_4, hx419_5, hx419_6, hx419_7, hx419_8⟩ := at_T42 HR0.out x5_1 p419 q419
                have hw419_8 := hx419_8
                have hw419_7 := hx419_7
                have hw419_6 := hx419_6
                have hw419_5 := hx419_5
                have hw419_4 := hx419_4
                have hw419_3 := hx419_3
                have hw419_2 := hx419_2
                have hw419_1 := hx419_1
                have hw419_0 := hx419_0
                cases e419
                replace hx419_0 := hcx HB hx419_0
                replace hx419_1 := hcx HB hx419_1
                replace hx419_2 := hcx HB hx419_2
                replace hx419_3 := hcx HB hx419_3
                replace hx419_4 := hcx HB hx419_4
                replace hx419_5 := hcx HB hx419_5
                replace hx419_6 := hcx HB hx419_6
                replace hx419_7 := hcx HB hx419_7
                replace hx419_8 := hcx HB hx419_8
                replace p419 := eq_true p419
                replace q419 := eq_true q419
                have p420 : 0 ≤ (x5_1 : Int) := of_decide_eq_true (by first | (with_reducible assumption) | assumption)
                have q420 : x5_1 < (l1.length : Int) := of_decide_eq_true (by first | (with_reducible assumption) | assumption)
                obtain ⟨ad420, e420, hx420_0, hx420_1, hx420_2, hx420_3, hx420_4, hx420_5, hx420_6, hx420_7, hx420_8⟩ := at_T42 HR1.out x5_1 p420 q420
                have hw420_8 := hx420_8
                have hw420_7 := hx420_7
                have hw420_6 := hx420_6
                have hw420_5 := hx420_5
                have hw420_4 := hx420_4
                have hw420_3 := hx420_3
                have hw420_2 := hx420_2
                have hw420_1 := hx420_1
                have hw420_0 := hx420_0
                cases e420
                replace hx420_0 := hcx HB hx420_0
                replace hx420_1 := hcx HB hx420_1
                replace hx420_2 := hcx HB hx420_2
                replace hx420_3 := hcx HB hx420_3
                replace hx420_4 := hcx HB hx420_4
                replace hx420_5 := hcx HB hx420_5
                replace hx420_6 := hcx HB hx420_6
                replace hx420_7 := hcx HB hx420_7
                replace hx420_8 := hcx HB hx420_8
                replace p420 := eq_true p420
                replace q420 := eq_true q420
                refine start_ (n := 10) (S := fun w' => w'.cell? (ad419.add ((x5_1).toNat * 9)) = some (.int .i64 ((rd_T42 l0 x5_1).f0)) ∧ w'.cell? ⟨(ad419.add ((x5_1).toNat * 9)).block, (ad419.add ((x5_1).toNat * 9)).off + 1, none⟩ = some (.int .i64 ((rd_T42 l0 x5_1).f1)) ∧ w'.cell? ⟨(ad419.add ((x5_1).toNat * 9)).block, (ad419.add ((x5_1).toNat * 9)).off + 2, none⟩ = some (.int .i64 ((rd_T42 l0 x5_1).f2.f0)) ∧ w'.cell? ⟨(ad419.add ((x5_1).toNat * 9)).block, (ad419.add ((x5_1).toNat * 9)).off + 3, none⟩ = some (.string ((rd_T42 l0 x5_1).f2.f1)) ∧ w'.cell? ⟨(ad419.add ((x5_1).toNat * 9)).block, (ad419.add ((x5_1).toNat * 9)).off + 4, none⟩ = some (.int .i64 ((rd_T42 l0 x5_1).f2.f2)) ∧ w'.cell? ⟨(ad419.add ((x5_1).toNat * 9)).block, (ad419.add ((x5_1).toNat * 9)).off + 5, none⟩ = some (.int .i64 ((rd_T42 l0 x5_1).f2.f3)) ∧ w'.cell? ⟨(ad419.add ((x5_1).toNat * 9)).block, (ad419.add ((x5_1).toNat * 9)).off + 6, none⟩ = some (.int .i64 ((rd_T42 l0 x5_1).f3)) ∧ w'.cell? ⟨(ad419.add ((x5_1).toNat * 9)).block, (ad419.add ((x5_1).toNat * 9)).off + 7, none⟩ = some (.int .i64 ((rd_T42 l0 x5_1).f4)) ∧ w'.cell? ⟨(ad419.add ((x5_1).toNat * 9)).block, (ad419.add ((x5_1).toNat * 9)).off + 8, none⟩ = some (.int .i64 ((rd_T42 l0 x5_1).f5)) ∧ w'.cell? (ad420.add ((x5_1).toNat * 9)) = some (.int .i64 ((rd_T42 l1 x5_1).f0)) ∧ w'.cell? ⟨(ad420.add ((x5_1).toNat * 9)).block, (ad420.add ((x5_1).toNat * 9)).off + 1, none⟩ = some (.int .i64 ((rd_T42 l1 x5_1).f1)) ∧ w'.cell? ⟨(ad420.add ((x5_1).toNat * 9)).block, (ad420.add ((x5_1).toNat * 9)).off + 2, none⟩ = some (.int .i64 ((rd_T42 l1 x5_1).f2.f0)) ∧ w'.cell? ⟨(ad420.add ((x5_1).toNat * 9)).block, (ad420.add ((x5_1).toNat * 9)).off + 3, none⟩ = some (.string ((rd_T42 l1 x5_1).f2.f1)) ∧ w'.cell? ⟨(ad420.add ((x5_1).toNat * 9)).block, (ad420.add ((x5_1).toNat * 9)).off + 4, none⟩ = some (.int .i64 ((rd_T42 l1 x5_1).f2.f2)) ∧ w'.cell? ⟨(ad420.add ((x5_1).toNat * 9)).block, (ad420.add ((x5_1).toNat * 9)).off + 5, none⟩ = some (.int .i64 ((rd_T42 l1 x5_1).f2.f3)) ∧ w'.cell? ⟨(ad420.add ((x5_1).toNat * 9)).block, (ad420.add ((x5_1).toNat * 9)).off + 6, none⟩ = some (.int .i64 ((rd_T42 l1 x5_1).f3)) ∧ w'.cell? ⟨(ad420.add ((x5_1).toNat * 9)).block, (ad420.add ((x5_1).toNat * 9)).off + 7, none⟩ = some (.int .i64 ((rd_T42 l1 x5_1).f4)) ∧ w'.cell? ⟨(ad420.add ((x5_1).toNat * 9)).block, (ad420.add ((x5_1).toNat * 9)).off + 8, none⟩ = some (.int .i64 ((rd_T42 l1 x5_1).f5))) (ds := []) #[false, false, false, false, false, false, false, false, false, false] (by kernel_rfl) rfl rfl ⟨(hcx HB hw419_0), (hcx HB hw419_1), (hcx HB hw419_2), (hcx HB hw419_3), (hcx HB hw419_4), (hcx HB hw419_5), (hcx HB hw419_6), (hcx HB hw419_7), (hcx HB hw419_8), (hcx HB hw420_0), (hcx HB hw420_1), (hcx HB hw420_2), (hcx HB hw420_3), (hcx HB hw420_4), (hcx HB hw420_5), (hcx HB hw420_6), (hcx HB hw420_7), (hcx HB hw420_8)⟩ (fun hHeld => ?_); refine with_tabW laws_eqResultS.tab6 laws_eqResultS.bits6 (fun HT_ HW_ => ?_)
                generalize wr.drew = w9 at HB hx419_0 hx419_1 hx419_2 hx419_3 hx419_4 hx419_5 hx419_6 hx419_7 hx419_8 hx420_0 hx420_1 hx420_2 hx420_3 hx420_4 hx420_5 hx420_6 hx420_7 hx420_8 hHeld ⊢
                refine pur (i := 0) (N := some 17) #[true, false, false, false, false, false, false, false, false, false] rfl rfl HT_.out ?_
                refine pur (i := 1) (N := some 18) #[true, true, false, false, false, false, false, false, false, false] rfl rfl HT_.out ?_
                refine pur (i := 2) (N := some 19) #[true, true, true, false, false, false, false, false, false, false] rfl rfl HT_.out ?_
                refine pur (i := 4) (N := some 21) #[true, true, true, false, true, false, false, false, false, false] rfl rfl HT_.out ?_
                refine pur (i := 5) (N := some 22) #[true, true, true, false, true, true, false, false, false, false] rfl rfl HT_.out ?_
                refine pur (i := 6) (N := some 23) #[true, true, true, false, true, true, true, false, false, false] rfl rfl HT_.out ?_
                refine take_ (i := 3) (N := some 20) (v := ?_) (a' := ?_) #[true, true, true, true, true, true, true, false, false, false] rfl rfl (take_ofW HT_.out HW_.out (by kernel_rfl)) (fun _ _ _ h => h) (Or.inl ⟨by rfl, ?_⟩) hHeld ?_ ?_
                rotate_left
                · rintro w' ⟨s0, s1, s2, s3, s4, s5, s6, s7, s8, s9, s10, s11, s12, s13, s14, s15, s16, s17⟩
                  go_simp
                  with_reducible rfl
                rotate_left; focus (simp only [Act.put, List.setIfInBounds_toArray, List.set_cons_zero, List.set_cons_succ, i64_w, i32_w]; rfl)
                refine take_ (i := 7) (N := some 24) (v := ?_) (a' := ?_) #[true, true, true, true, true, true, true, true, false, false] rfl rfl (take_ofW HT_.out HW_.out (by kernel_rfl)) (fun _ _ _ h => h) (Or.inl ⟨by rfl, ?_⟩) hHeld ?_ ?_
                rotate_left
                · rintro w' ⟨s0, s1, s2, s3, s4, s5, s6, s7, s8, s9, s10, s11, s12, s13, s14, s15, s16, s17⟩
                  go_simp
                  with_reducible rfl
                rotate_left; focus (simp only [Act.put, List.setIfInBounds_toArray, List.set_cons_zero, List.set_cons_succ, i64_w, i32_w]; rfl)
                refine one_ (i := 8) (N := some 25) #[true, true, true, true, true, true, true, true, true, false] rfl rfl (one_of HT_.out (by kernel_rfl)) (by decide) (fun K hK => ?_)
                refine goes_ Try.func121 (by kernel_rfl) rfl #[.agg #[.int .i64 ((rd_T42 l0 x5_1).f0), .int .i64 ((rd_T42 l0 x5_1).f1), .int .i64 ((rd_T42 l0 x5_1).f2.f0), .string ((rd_T42 l0 x5_1).f2.f1), .int .i64 ((rd_T42 l0 x5_1).f2.f2), .int .i64 ((rd_T42 l0 x5_1).f2.f3), .int .i64 ((rd_T42 l0 x5_1).f3), .int .i64 ((rd_T42 l0 x5_1).f4), .int .i64 ((rd_T42 l0 x5_1).f5)], .agg #[.int .i64 ((rd_T42 l1 x5_1).f0), .int .i64 ((rd_T42 l1 x5_1).f1), .int .i64 ((rd_T42 l1 x5_1).f2.f0), .string ((rd_T42 l1 x5_1).f2.f1), .int .i64 ((rd_T42 l1 x5_1).f2.f2), .int .i64 ((rd_T42 l1 x5_1).f2.f3), .int .i64 ((rd_T42 l1 x5_1).f3), .int .i64 ((rd_T42 l1 x5_1).f4), .int .i64 ((rd_T42 l1 x5_1).f5)]] (by rfl) rfl rfl (by (try simp only [List.map_toArray, List.map_cons, List.map_nil]); first | done | rfl | (simp only [List.length_drop, List.length_take]; rfl)) ?_
                with_reducible refine (laws_eqResult.calls ((rd_T42 l0 x5_1).f0) ((rd_T42 l0 x5_1).f1) ((rd_T42 l0 x5_1).f2.f0) ((rd_T42 l0 x5_1).f2.f1) ((rd_T42 l0 x5_1).f2.f2) ((rd_T42 l0 x5_1).f2.f3) ((rd_T42 l0 x5_1).f3) ((rd_T42 l0 x5_1).f4) ((rd_T42 l0 x5_1).f5) ((rd_T42 l1 x5_1).f0) ((rd_T42 l1 x5_1).f1) ((rd_T42 l1 x5_1).f2.f0) ((rd_T42 l1 x5_1).f2.f1) ((rd_T42 l1 x5_1).f2.f2) ((rd_T42 l1 x5_1).f2.f3) ((rd_T42 l1 x5_1).f3) ((rd_T42 l1 x5_1).f4) ((rd_T42 l1 x5_1).f5) true _ A7.out).mono ?_
                rintro e w10 ⟨rfl, hb⟩
                refine ⟨_, rfl, ?_⟩
                have n0_ := an0 HB hb
                clear HB
                have HB := n0_
                clear n0_
                (try clear hb)
                (try clear hb2)
                (try clear hk)
                (try clear hi)
                refine hK.out _ _ ⟨(hcx HB hw419_0), (hcx HB hw419_1), (hcx HB hw419_2), (hcx HB hw419_3), (hcx HB hw419_4), (hcx HB hw419_5), (hcx HB hw419_6), (hcx HB hw419_7), (hcx HB hw419_8), (hcx HB hw420_0), (hcx HB hw420_1), (hcx HB hw420_2), (hcx HB hw420_3), (hcx HB hw420_4), (hcx HB hw420_5), (hcx HB hw420_6), (hcx HB hw420_7), (hcx HB hw420_8)⟩ (fun hHeld => ?_)
                clear hK K
                refine norm_ (a' := ?_) ?_ ?_
                rotate_left
                · show Act.put _ (some 25) _ = _
                  simp only [Act.put, List.setIfInBounds_toArray, List.set_cons_zero, List.set_cons_succ, i64_w, i32_w]
                  rfl
                refine pur (i := 9) (N := some 26) #[true, true, true, true, true, true, true, true, true, true] rfl rfl HT_.out ?_
                refine done_ (done_of HT_.out (by kernel_rfl)) ?_
                try go_wp2
                go_roundg k1
                case measure => have := HK1.out; omega
                case rel => exact ⟨(wrap64 (x5_1 + 1)), (by first | rfl | (simp; done) | (simp [*]; done) | (simp [bne_nil_, beq_nil_]; done)), H', ⟨by have := HK1.out; omega⟩, ⟨bp HB.out⟩⟩
              · replace c8 := Bool.eq_false_iff.mpr c8
                subst c8
                have H1 : (some false) = some r := by rw [if_neg (show ¬ (false = true) by decide)] at H; exact H
                clear H
                have H := H1
                clear H1
                obtain rfl := Option.some.inj H
                try go_wp2
                have n0_ := Aside0.mk (below_drew1 HB.out)
                clear HB
                have HB := n0_
                clear n0_
                have p419 : 0 ≤ (x5_1 : Int) := of_decide_eq_true (by first | (with_reducible assumption) | assumption)
                have q419 : x5_1 < (l0.length : Int) := of_decide_eq_true (by first | (with_reducible assumption) | assumption)
                obtain ⟨ad419, e419, hx419_0, hx419_1, hx419_2, hx419_3, hx419_4, hx419_5, hx419_6, hx419_7, hx419_8⟩ := at_T42 HR0.out x5_1 p419 q419
                have hw419_8 := hx419_8
                have hw419_7 := hx419_7
                have hw419_6 := hx419_6
                have hw419_5 := hx419_5
                have hw419_4 := hx419_4
                have hw419_3 := hx419_3
                have hw419_2 := hx419_2
                have hw419_1 := hx419_1
                have hw419_0 := hx419_0
                cases e419
                replace hx419_0 := hcx HB hx419_0
                replace hx419_1 := hcx HB hx419_1
                replace hx419_2 := hcx HB hx419_2
                replace hx419_3 := hcx HB hx419_3
                replace hx419_4 := hcx HB hx419_4
                replace hx419_5 := hcx HB hx419_5
                replace hx419_6 := hcx HB hx419_6
                replace hx419_7 := hcx HB hx419_7
                replace hx419_8 := hcx HB hx419_8
                replace p419 := eq_true p419
                replace q419 := eq_true q419
                have p420 : 0 ≤ (x5_1 : Int) := of_decide_eq_true (by first | (with_reducible assumption) | assumption)
                have q420 : x5_1 < (l1.length : Int) := of_decide_eq_true (by first | (with_reducible assumption) | assumption)
                obtain ⟨ad420, e420, hx420_0, hx420_1, hx420_2, hx420_3, hx420_4, hx420_5, hx420_6, hx420_7, hx420_8⟩ := at_T42 HR1.out x5_1 p420 q420
                have hw420_8 := hx420_8
                have hw420_7 := hx420_7
                have hw420_6 := hx420_6
                have hw420_5 := hx420_5
                have hw420_4 := hx420_4
                have hw420_3 := hx420_3
                have hw420_2 := hx420_2
                have hw420_1 := hx420_1
                have hw420_0 := hx420_0
                cases e420
                replace hx420_0 := hcx HB hx420_0
                replace hx420_1 := hcx HB hx420_1
                replace hx420_2 := hcx HB hx420_2
                replace hx420_3 := hcx HB hx420_3
                replace hx420_4 := hcx HB hx420_4
                replace hx420_5 := hcx HB hx420_5
                replace hx420_6 := hcx HB hx420_6
                replace hx420_7 := hcx HB hx420_7
                replace hx420_8 := hcx HB hx420_8
                replace p420 := eq_true p420
                replace q420 := eq_true q420
                refine start_ (n := 10) (S := fun w' => w'.cell? (ad419.add ((x5_1).toNat * 9)) = some (.int .i64 ((rd_T42 l0 x5_1).f0)) ∧ w'.cell? ⟨(ad419.add ((x5_1).toNat * 9)).block, (ad419.add ((x5_1).toNat * 9)).off + 1, none⟩ = some (.int .i64 ((rd_T42 l0 x5_1).f1)) ∧ w'.cell? ⟨(ad419.add ((x5_1).toNat * 9)).block, (ad419.add ((x5_1).toNat * 9)).off + 2, none⟩ = some (.int .i64 ((rd_T42 l0 x5_1).f2.f0)) ∧ w'.cell? ⟨(ad419.add ((x5_1).toNat * 9)).block, (ad419.add ((x5_1).toNat * 9)).off + 3, none⟩ = some (.string ((rd_T42 l0 x5_1).f2.f1)) ∧ w'.cell? ⟨(ad419.add ((x5_1).toNat * 9)).block, (ad419.add ((x5_1).toNat * 9)).off + 4, none⟩ = some (.int .i64 ((rd_T42 l0 x5_1).f2.f2)) ∧ w'.cell? ⟨(ad419.add ((x5_1).toNat * 9)).block, (ad419.add ((x5_1).toNat * 9)).off + 5, none⟩ = some (.int .i64 ((rd_T42 l0 x5_1).f2.f3)) ∧ w'.cell? ⟨(ad419.add ((x5_1).toNat * 9)).block, (ad419.add ((x5_1).toNat * 9)).off + 6, none⟩ = some (.int .i64 ((rd_T42 l0 x5_1).f3)) ∧ w'.cell? ⟨(ad419.add ((x5_1).toNat * 9)).block, (ad419.add ((x5_1).toNat * 9)).off + 7, none⟩ = some (.int .i64 ((rd_T42 l0 x5_1).f4)) ∧ w'.cell? ⟨(ad419.add ((x5_1).toNat * 9)).block, (ad419.add ((x5_1).toNat * 9)).off + 8, none⟩ = some (.int .i64 ((rd_T42 l0 x5_1).f5)) ∧ w'.cell? (ad420.add ((x5_1).toNat * 9)) = some (.int .i64 ((rd_T42 l1 x5_1).f0)) ∧ w'.cell? ⟨(ad420.add ((x5_1).toNat * 9)).block, (ad420.add ((x5_1).toNat * 9)).off + 1, none⟩ = some (.int .i64 ((rd_T42 l1 x5_1).f1)) ∧ w'.cell? ⟨(ad420.add ((x5_1).toNat * 9)).block, (ad420.add ((x5_1).toNat * 9)).off + 2, none⟩ = some (.int .i64 ((rd_T42 l1 x5_1).f2.f0)) ∧ w'.cell? ⟨(ad420.add ((x5_1).toNat * 9)).block, (ad420.add ((x5_1).toNat * 9)).off + 3, none⟩ = some (.string ((rd_T42 l1 x5_1).f2.f1)) ∧ w'.cell? ⟨(ad420.add ((x5_1).toNat * 9)).block, (ad420.add ((x5_1).toNat * 9)).off + 4, none⟩ = some (.int .i64 ((rd_T42 l1 x5_1).f2.f2)) ∧ w'.cell? ⟨(ad420.add ((x5_1).toNat * 9)).block, (ad420.add ((x5_1).toNat * 9)).off + 5, none⟩ = some (.int .i64 ((rd_T42 l1 x5_1).f2.f3)) ∧ w'.cell? ⟨(ad420.add ((x5_1).toNat * 9)).block, (ad420.add ((x5_1).toNat * 9)).off + 6, none⟩ = some (.int .i64 ((rd_T42 l1 x5_1).f3)) ∧ w'.cell? ⟨(ad420.add ((x5_1).toNat * 9)).block, (ad420.add ((x5_1).toNat * 9)).off + 7, none⟩ = some (.int .i64 ((rd_T42 l1 x5_1).f4)) ∧ w'.cell? ⟨(ad420.add ((x5_1).toNat * 9)).block, (ad420.add ((x5_1).toNat * 9)).off + 8, none⟩ = some (.int .i64 ((rd_T42 l1 x5_1).f5))) (ds := []) #[false, false, false, false, false, false, false, false, false, false] (by kernel_rfl) rfl rfl ⟨(hcx HB hw419_0), (hcx HB hw419_1), (hcx HB hw419_2), (hcx HB hw419_3), (hcx HB hw419_4), (hcx HB hw419_5), (hcx HB hw419_6), (hcx HB hw419_7), (hcx HB hw419_8), (hcx HB hw420_0), (hcx HB hw420_1), (hcx HB hw420_2), (hcx HB hw420_3), (hcx HB hw420_4), (hcx HB hw420_5), (hcx HB hw420_6), (hcx HB hw420_7), (hcx HB hw420_8)⟩ (fun hHeld => ?_); refine with_tabW laws_eqResultS.tab6 laws_eqResultS.bits6 (fun HT_ HW_ => ?_)
                generalize wr.drew = w11 at HB hx419_0 hx419_1 hx419_2 hx419_3 hx419_4 hx419_5 hx419_6 hx419_7 hx419_8 hx420_0 hx420_1 hx420_2 hx420_3 hx420_4 hx420_5 hx420_6 hx420_7 hx420_8 hHeld ⊢
                refine pur (i := 0) (N := some 17) #[true, false, false, false, false, false, false, false, false, false] rfl rfl HT_.out ?_
                refine pur (i := 1) (N := some 18) #[true, true, false, false, false, false, false, false, false, false] rfl rfl HT_.out ?_
                refine pur (i := 2) (N := some 19) #[true, true, true, false, false, false, false, false, false, false] rfl rfl HT_.out ?_
                refine pur (i := 4) (N := some 21) #[true, true, true, false, true, false, false, false, false, false] rfl rfl HT_.out ?_
                refine pur (i := 5) (N := some 22) #[true, true, true, false, true, true, false, false, false, false] rfl rfl HT_.out ?_
                refine pur (i := 6) (N := some 23) #[true, true, true, false, true, true, true, false, false, false] rfl rfl HT_.out ?_
                refine take_ (i := 3) (N := some 20) (v := ?_) (a' := ?_) #[true, true, true, true, true, true, true, false, false, false] rfl rfl (take_ofW HT_.out HW_.out (by kernel_rfl)) (fun _ _ _ h => h) (Or.inl ⟨by rfl, ?_⟩) hHeld ?_ ?_
                rotate_left
                · rintro w' ⟨s0, s1, s2, s3, s4, s5, s6, s7, s8, s9, s10, s11, s12, s13, s14, s15, s16, s17⟩
                  go_simp
                  with_reducible rfl
                rotate_left; focus (simp only [Act.put, List.setIfInBounds_toArray, List.set_cons_zero, List.set_cons_succ, i64_w, i32_w]; rfl)
                refine take_ (i := 7) (N := some 24) (v := ?_) (a' := ?_) #[true, true, true, true, true, true, true, true, false, false] rfl rfl (take_ofW HT_.out HW_.out (by kernel_rfl)) (fun _ _ _ h => h) (Or.inl ⟨by rfl, ?_⟩) hHeld ?_ ?_
                rotate_left
                · rintro w' ⟨s0, s1, s2, s3, s4, s5, s6, s7, s8, s9, s10, s11, s12, s13, s14, s15, s16, s17⟩
                  go_simp
                  with_reducible rfl
                rotate_left; focus (simp only [Act.put, List.setIfInBounds_toArray, List.set_cons_zero, List.set_cons_succ, i64_w, i32_w]; rfl)
                refine one_ (i := 8) (N := some 25) #[true, true, true, true, true, true, true, true, true, false] rfl rfl (one_of HT_.out (by kernel_rfl)) (by decide) (fun K hK => ?_)
                refine goes_ Try.func121 (by kernel_rfl) rfl #[.agg #[.int .i64 ((rd_T42 l0 x5_1).f0), .int .i64 ((rd_T42 l0 x5_1).f1), .int .i64 ((rd_T42 l0 x5_1).f2.f0), .string ((rd_T42 l0 x5_1).f2.f1), .int .i64 ((rd_T42 l0 x5_1).f2.f2), .int .i64 ((rd_T42 l0 x5_1).f2.f3), .int .i64 ((rd_T42 l0 x5_1).f3), .int .i64 ((rd_T42 l0 x5_1).f4), .int .i64 ((rd_T42 l0 x5_1).f5)], .agg #[.int .i64 ((rd_T42 l1 x5_1).f0), .int .i64 ((rd_T42 l1 x5_1).f1), .int .i64 ((rd_T42 l1 x5_1).f2.f0), .string ((rd_T42 l1 x5_1).f2.f1), .int .i64 ((rd_T42 l1 x5_1).f2.f2), .int .i64 ((rd_T42 l1 x5_1).f2.f3), .int .i64 ((rd_T42 l1 x5_1).f3), .int .i64 ((rd_T42 l1 x5_1).f4), .int .i64 ((rd_T42 l1 x5_1).f5)]] (by rfl) rfl rfl (by (try simp only [List.map_toArray, List.map_cons, List.map_nil]); first | done | rfl | (simp only [List.length_drop, List.length_take]; rfl)) ?_
                with_reducible refine (laws_eqResult.calls ((rd_T42 l0 x5_1).f0) ((rd_T42 l0 x5_1).f1) ((rd_T42 l0 x5_1).f2.f0) ((rd_T42 l0 x5_1).f2.f1) ((rd_T42 l0 x5_1).f2.f2) ((rd_T42 l0 x5_1).f2.f3) ((rd_T42 l0 x5_1).f3) ((rd_T42 l0 x5_1).f4) ((rd_T42 l0 x5_1).f5) ((rd_T42 l1 x5_1).f0) ((rd_T42 l1 x5_1).f1) ((rd_T42 l1 x5_1).f2.f0) ((rd_T42 l1 x5_1).f2.f1) ((rd_T42 l1 x5_1).f2.f2) ((rd_T42 l1 x5_1).f2.f3) ((rd_T42 l1 x5_1).f3) ((rd_T42 l1 x5_1).f4) ((rd_T42 l1 x5_1).f5) false _ A7.out).mono ?_
                rintro e w12 ⟨rfl, hb⟩
                refine ⟨_, rfl, ?_⟩
                have n0_ := an0 HB hb
                clear HB
                have HB := n0_
                clear n0_
                (try clear hb)
                (try clear hb2)
                (try clear hk)
                (try clear hi)
                refine hK.out _ _ ⟨(hcx HB hw419_0), (hcx HB hw419_1), (hcx HB hw419_2), (hcx HB hw419_3), (hcx HB hw419_4), (hcx HB hw419_5), (hcx HB hw419_6), (hcx HB hw419_7), (hcx HB hw419_8), (hcx HB hw420_0), (hcx HB hw420_1), (hcx HB hw420_2), (hcx HB hw420_3), (hcx HB hw420_4), (hcx HB hw420_5), (hcx HB hw420_6), (hcx HB hw420_7), (hcx HB hw420_8)⟩ (fun hHeld => ?_)
                clear hK K
                refine norm_ (a' := ?_) ?_ ?_
                rotate_left
                · show Act.put _ (some 25) _ = _
                  simp only [Act.put, List.setIfInBounds_toArray, List.set_cons_zero, List.set_cons_succ, i64_w, i32_w]
                  rfl
                refine pur (i := 9) (N := some 26) #[true, true, true, true, true, true, true, true, true, true] rfl rfl HT_.out ?_
                refine done_ (done_of HT_.out (by kernel_rfl)) ?_
                try go_wp2
                go_ret
                exact ⟨fe, bp HB.out⟩
            · rw [if_neg c6] at H
              exact absurd H (by simp)
          · rw [if_neg c5] at H
            exact absurd H (by simp)
        · rw [if_neg c4] at H
          have c4b0 : decide (x5_1 < (l0.length : Int)) = false := decide_eq_false c4
          clear c4
          obtain rfl := Option.some.inj H
          go_wp2
          go_ret
          exact ⟨fe, bp HB.out⟩
  · rw [if_neg c3] at H
    have c3b0 : ((l0.length : Int) == (l1.length : Int)) = false := beq_eq_false_iff_ne.mpr c3
    have c3b1 : ((l0.length : Int) != (l1.length : Int)) = true := bne_iff_ne.mpr c3
    have c3b2 : (l0.length == l1.length) = false := by first | simpa using c3 | (simp at c3 ⊢; omega)
    obtain rfl := Option.some.inj H
    go_enter Try.func69, Try.ntmps69
    go_wp2
    go_ret
    exact ⟨fe, bp HB.out⟩

end Go.Proofs.Ytfeeifefmenlmaa.PFnExactRepliesRight
