-- Written by a program of this session, in the manner of the kit's print (wip/pp.py): functions and their contracts.
import Derived.Test.YtfeeifefmenlmaaPFnExactApplyFeedx0
import Derived.Test.YtfeeifefmenlmaaPFnExactApplyFeedx6
import Derived.Test.YtfeeifefmenlmaaPFnExactApplyFeedx7
import Derived.Test.YtfeeifefmenlmaaPFnExactApplyFeedx8
namespace Go.Proofs.Ytfeeifefmenlmaa.PFnExactApplyFeed
open Go.RowKit Go.Proofs.YtfeeifefmenlmaaW.PrintWords Go.Proofs.YtfeeifefmenlmaaW.PrintLast Go.Proofs.YtfeeifefmenlmaaW.PrintMore
attribute [local go_sem] binOp_leq_str binOp_gtr_str binOp_geq_str max2_int min2_int max_two min_two max_three min_three max_four min_four   -- for this text's walks alone
set_option linter.unusedVariables false
set_option linter.unusedSimpArgs false

/-! ### impl_ApplyFeed: function 30 -/
mutual
def impl_ApplyFeed.j0 : Nat → List (S29) → List (S75) → Bool → Option ((List (S29)) × Bool)
  | 0, _, _, _ => none
  | k + 1, x0, x1, x17 => if x17 = true then (some (([] : List (S29)), false)) else ((impl_Pair_96.f x0).bind fun t323 => (impl_ApplyFeed.l0 k t323 x1 (x1.length : Int) 0))
def impl_ApplyFeed.l0 : Nat → List (S29) → List (S75) → Int → Int → Option ((List (S29)) × Bool)
  | 0, _, _, _, _ => none
  | k + 1, x6, x20, x21, x22 => if x22 < x21 then (if 0 ≤ x22 then (if x22 < (x20.length : Int) then ((impl_PairGet.f k x6 ((rd_T75 x20 x22).f1)).bind fun t328 => (if t328 = ((rd_T75 x20 x22).f2) then (if ((rd_T75 x20 x22).f3) = (-1) then ((impl_PairDrop.f k x6 ((rd_T75 x20 x22).f1)).bind fun bt329 => (if bt329.2 = true then (impl_ApplyFeed.l0 k bt329.1 x20 x21 (wrap64 (x22 + 1))) else (some (([] : List (S29)), false)))) else ((impl_PairPut.f k x6 ((rd_T75 x20 x22).f1) ((rd_T75 x20 x22).f3)).bind fun bt333 => (if bt333.2 = true then (impl_ApplyFeed.l0 k bt333.1 x20 x21 (wrap64 (x22 + 1))) else (some (([] : List (S29)), false))))) else (some (([] : List (S29)), false)))) else (none)) else (none)) else (some (x6, true))
end
def impl_ApplyFeed.f (k : Nat) (l0 : List (S29)) (l1 : List (S75)) : Option ((List (S29)) × Bool) := (impl_PairsValid.f k l0).bind fun t321 => (if t321 = true then ((impl_FeedValid.f k l1).bind fun t322 => (impl_ApplyFeed.j0 k l0 l1 (!t322))) else (impl_ApplyFeed.j0 k l0 l1 true))
theorem impl_ApplyFeed.mono_l : ∀ k, (∀ y0 y1 y2, LeO (impl_ApplyFeed.j0 k y0 y1 y2) (impl_ApplyFeed.j0 (k + 1) y0 y1 y2)) ∧ (∀ y0 y1 y2 y3, LeO (impl_ApplyFeed.l0 k y0 y1 y2 y3) (impl_ApplyFeed.l0 (k + 1) y0 y1 y2 y3))
  | 0 => ⟨fun _ _ _ r h => by simp [impl_ApplyFeed.j0] at h, fun _ _ _ _ r h => by simp [impl_ApplyFeed.l0] at h⟩
  | k + 1 => by
    obtain ⟨ih0, ih1⟩ := impl_ApplyFeed.mono_l k
    refine ⟨?_, ?_⟩
    · intro y0 y1 y2
      unfold impl_ApplyFeed.j0
      repeat' first
      | (with_reducible exact ih0 _ _ _)
      | (with_reducible exact ih1 _ _ _ _)
      | (with_reducible exact impl_FeedValid.mono _ _)
      | (with_reducible exact impl_PairDrop.mono _ _ _)
      | (with_reducible exact impl_PairGet.mono _ _ _)
      | (with_reducible exact impl_PairPut.mono _ _ _ _)
      | (with_reducible exact impl_PairsValid.mono _ _)
      | (with_reducible exact LeO.refl _)
      | (with_reducible exact LeO.none _)
      | (with_reducible refine LeO.ite ?_ ?_)
      | (with_reducible refine LeO.bind ?_ (fun _ => ?_))
      | exact ih0 _ _ _
      | exact ih1 _ _ _ _
      | exact impl_FeedValid.mono _ _
      | exact impl_PairDrop.mono _ _ _
      | exact impl_PairGet.mono _ _ _
      | exact impl_PairPut.mono _ _ _ _
      | exact impl_PairsValid.mono _ _
      | exact LeO.none _
      | refine LeO.ite ?_ ?_
      | refine LeO.bind ?_ (fun _ => ?_)
    · intro y0 y1 y2 y3
      unfold impl_ApplyFeed.l0
      repeat' first
      | (with_reducible exact ih0 _ _ _)
      | (with_reducible exact ih1 _ _ _ _)
      | (with_reducible exact impl_FeedValid.mono _ _)
      | (with_reducible exact impl_PairDrop.mono _ _ _)
      | (with_reducible exact impl_PairGet.mono _ _ _)
      | (with_reducible exact impl_PairPut.mono _ _ _ _)
      | (with_reducible exact impl_PairsValid.mono _ _)
      | (with_reducible exact LeO.refl _)
      | (with_reducible exact LeO.none _)
      | (with_reducible refine LeO.ite ?_ ?_)
      | (with_reducible refine LeO.bind ?_ (fun _ => ?_))
      | exact ih0 _ _ _
      | exact ih1 _ _ _ _
      | exact impl_FeedValid.mono _ _
      | exact impl_PairDrop.mono _ _ _
      | exact impl_PairGet.mono _ _ _
      | exact impl_PairPut.mono _ _ _ _
      | exact impl_PairsValid.mono _ _
      | exact LeO.none _
      | refine LeO.ite ?_ ?_
      | refine LeO.bind ?_ (fun _ => ?_)
theorem impl_ApplyFeed.mono : ∀ a0 a1 k, LeO (impl_ApplyFeed.f k a0 a1) (impl_ApplyFeed.f (k + 1) a0 a1) := by
  intro a0 a1 k
  obtain ⟨ih0, ih1⟩ := impl_ApplyFeed.mono_l k
  unfold impl_ApplyFeed.f
  repeat' first
      | (with_reducible exact ih0 _ _ _)
      | (with_reducible exact ih1 _ _ _ _)
      | (with_reducible exact impl_FeedValid.mono _ _)
      | (with_reducible exact impl_PairDrop.mono _ _ _)
      | (with_reducible exact impl_PairGet.mono _ _ _)
      | (with_reducible exact impl_PairPut.mono _ _ _ _)
      | (with_reducible exact impl_PairsValid.mono _ _)
      | (with_reducible exact LeO.refl _)
      | (with_reducible exact LeO.none _)
      | (with_reducible refine LeO.ite ?_ ?_)
      | (with_reducible refine LeO.bind ?_ (fun _ => ?_))
      | exact ih0 _ _ _
      | exact ih1 _ _ _ _
      | exact impl_FeedValid.mono _ _
      | exact impl_PairDrop.mono _ _ _
      | exact impl_PairGet.mono _ _ _
      | exact impl_PairPut.mono _ _ _ _
      | exact impl_PairsValid.mono _ _
      | exact LeO.none _
      | refine LeO.ite ?_ ?_
      | refine LeO.bind ?_ (fun _ => ?_)
theorem impl_ApplyFeed.s0 {P0 Q : Prop} (B0 : P0) (h : P0 → Q := by (intro b0_; repeat (first | exact (Kd.R_reads' b0_).2.2 | (with_reducible refine Kd.C_alloc ?_ _) | (with_reducible refine Kd.C_drewN ?_ _) | (with_reducible refine Kd.C_drew ?_)))) : Q := h B0
set_option maxHeartbeats 8000000 in
set_option maxRecDepth 100000 in
theorem impl_ApplyFeed.calls (k : Nat) (A0 : Option Addr) (c0 : Nat) (l0 : List (S29)) (A1 : Option Addr) (c1 : Nat) (l1 : List (S75)) (r1 : List (S29)) (r2 : Bool) (w : World) (hr0 : Kd.C k29 w A0 l0.length l0) (hc0 : l0.length ≤ c0) (hr1 : Kd.C k75 w A1 l1.length l1) (hc1 : l1.length ≤ c1) (h : impl_ApplyFeed.f k l0 l1 = some (r1, r2)) :
    Calls Try.prog 30 #[.slice A0 l0.length c0, .slice A1 l1.length c1] w fun e w' => ∃ v0_ : Value, e = .returned (.tuple #[v0_, .bool r2]) ∧ Kd.R k29 29 w' w.heap.size (fun _ => True) v0_ r1 ∧ Below w.heap.size w w' := by
  have hu75 := Try.underlying75
  have HR0 := Aside0.mk hr0
  have HC0 := Aside0.mk hc0
  clear hr0 hc0
  have HR1 := Aside0.mk hr1
  have HC1 := Aside0.mk hc1
  clear hr1 hc1
  have HB := Aside0.mk (Below.refl w.heap.size w)
  have H : ((impl_PairsValid.f k l0).bind fun t321 => (if t321 = true then ((impl_FeedValid.f k l1).bind fun t322 => (impl_ApplyFeed.j0 k l0 l1 (!t322))) else (impl_ApplyFeed.j0 k l0 l1 true))) = some (r1, r2) := h
  clear h
  have HC3 := Aside0.mk H
  clear H
  go_enter Try.func30, Try.ntmps30
  go_upto_region 1 with (fail)
  go_cut [17] (fun v17 wc => ∃ (kq : Nat) (x17_2 : Bool), v17 = .bool x17_2 ∧ Aside0 (impl_ApplyFeed.j0 kq l0 l1 x17_2 = some (r1, r2)) ∧ Aside0 (kq ≤ k) ∧ Aside0 (Below w.heap.size w wc))
  case first =>
    have H := HC3.out
    clear HC3
    replace H := Option.bind_eq_some_iff.mp H
    obtain ⟨t321, A40, H⟩ := H
    replace H : (if t321 = true then ((impl_FeedValid.f k l1).bind fun t322 => (impl_ApplyFeed.j0 k l0 l1 (!t322))) else (impl_ApplyFeed.j0 k l0 l1 true)) = some (r1, r2) := H
    have A4 := Aside0.mk A40
    clear A40
    by_cases c5 : t321 = true
    · subst c5
      have H1 : ((impl_FeedValid.f k l1).bind fun t322 => (impl_ApplyFeed.j0 k l0 l1 (!t322))) = some (r1, r2) := by rw [if_pos rfl] at H; exact H
      clear H
      have H := H1
      clear H1
      replace H := Option.bind_eq_some_iff.mp H
      obtain ⟨t322, A60, H⟩ := H
      replace H : (impl_ApplyFeed.j0 k l0 l1 (!t322)) = some (r1, r2) := H
      have A6 := Aside0.mk A60
      clear A60
      have H' := Aside0.mk H
      clear H
      go_wp2_with (first | ((with_reducible refine gate_callee (f := 17) rfl ?_); refine gsl (some 11) rfl Try.func17 #[.slice A0 l0.length c0] rfl ?_; (with_reducible refine (impl_PairsValid.calls k _ _ l0 true _ ?side1 ?side2 A4.out).mono ?_); (case side1 => exact cc (Kd.C_below HR0.out HB.out)); (case side2 => exact HC0.out); rintro e w7 ⟨rfl, hb⟩; refine ⟨_, rfl, ?_⟩; replace HB := an0 HB hb; (try clear hb); (try clear hb2); (try clear hk); (try clear hi)) | (go_at_call 51; (with_reducible refine (impl_FeedValid.calls k _ _ l1 t322 _ ?side1 ?side2 A6.out).mono ?_); (case side1 => exact cc (Kd.C_below HR1.out HB.out)); (case side2 => exact HC1.out); rintro e w8 ⟨rfl, hb⟩; replace HB := an0 HB hb; (try clear hb); (try clear hb2); (try clear hk); (try clear hi)))
      go_meet
      case rel => exact ⟨_, (!t322), (by first | rfl | (simp; done) | (simp [*]; done) | (simp [bne_nil_, beq_nil_]; done)), H', ⟨by first | omega | exact Nat.le_refl _⟩, ⟨bp HB.out⟩⟩
    · replace c5 := Bool.eq_false_iff.mpr c5
      subst c5
      have H1 : (impl_ApplyFeed.j0 k l0 l1 true) = some (r1, r2) := by rw [if_neg (show ¬ (false = true) by decide)] at H; exact H
      clear H
      have H := H1
      clear H1
      have H' := Aside0.mk H
      clear H
      go_wp2_with (first | ((with_reducible refine gate_callee (f := 17) rfl ?_); refine gsl (some 11) rfl Try.func17 #[.slice A0 l0.length c0] rfl ?_; (with_reducible refine (impl_PairsValid.calls k _ _ l0 false _ ?side1 ?side2 A4.out).mono ?_); (case side1 => exact cc (Kd.C_below HR0.out HB.out)); (case side2 => exact HC0.out); rintro e w9 ⟨rfl, hb⟩; refine ⟨_, rfl, ?_⟩; replace HB := an0 HB hb; (try clear hb); (try clear hb2); (try clear hk); (try clear hi)))
      go_meet
      case rel => exact ⟨_, (true), (by first | rfl | (simp; done) | (simp [*]; done) | (simp [bne_nil_, beq_nil_]; done)), H', ⟨by first | omega | exact Nat.le_refl _⟩, ⟨bp HB.out⟩⟩
  case rest =>
    clear HC3
    try clear c1
    try clear p2
    try clear c3
    try clear c5
    obtain ⟨kq, x17_2, rfl, HA, HJ2, HB⟩ := hcut
    cases kq with
    | zero => exact absurd HA.out (by simp [impl_ApplyFeed.j0])
    | succ kj2 =>
      have H := HA.out
      clear HA
      simp only [impl_ApplyFeed.j0] at H
      by_cases c10 : x17_2 = true
      · subst c10
        have H1 : (some (([] : List (S29)), false)) = some (r1, r2) := by rw [if_pos rfl] at H; exact H
        clear H
        have H := H1
        clear H1
        simp only [Option.some.injEq, Prod.mk.injEq] at H
        obtain ⟨rfl, rfl⟩ := H
        go_wp2
        go_ret2
        exact ⟨_, fe, by first | exact Kd.R_nil _ _ _ _ _ | exact Kd.N_nil _ _ _ _ _ | exact Kd.V_nil _ _ _ _ _ | exact Kd.Q_nil _ _ _ _ _ | exact Kd.S_nil _ _ _ _ _, bp HB.out⟩
      · replace c10 := Bool.eq_false_iff.mpr c10
        subst c10
        have H1 : ((impl_Pair_96.f l0).bind fun t323 => (impl_ApplyFeed.l0 kj2 t323 l1 (l1.length : Int) 0)) = some (r1, r2) := by rw [if_neg (show ¬ (false = true) by decide)] at H; exact H
        clear H
        have H := H1
        clear H1
        replace H := Option.bind_eq_some_iff.mp H
        obtain ⟨t323, A110, H⟩ := H
        replace H : (impl_ApplyFeed.l0 kj2 t323 l1 (l1.length : Int) 0) = some (r1, r2) := H
        have A11 := Aside0.mk A110
        clear A110
        have H' := Aside0.mk H
        clear H
        go_wp2_with (first | ((with_reducible refine gate_callee (f := 96) rfl ?_); refine gsl (some 19) rfl Try.func96 #[.slice A0 l0.length c0] rfl ?_; (with_reducible refine (impl_Pair_96.calls _ _ l0 t323 _ ?side1 ?side2 A11.out).mono ?_); (case side1 => exact cc (Kd.C_below HR0.out HB.out)); (case side2 => exact HC0.out); rintro e w12 ⟨v324, rfl, ho0, hb⟩; refine ⟨_, rfl, ?_⟩; have n0_ := Aside0.mk (Kd.R_lower ho0 (below_size (bp HB.out))); have n1_ := an0 HB hb; clear HB; have HO325 := n0_; have HB := n1_; clear n0_ n1_; (try clear hb); (try clear hb2); (try clear hk); (try clear hi); (try clear ho0)))
        go_loopg [6, 22] kj2 (fun kq v6 v22 w' => ∃ (x6_2 : List (S29)) (x22_2 : Int), v22 = .int .i64 x22_2 ∧ Aside0 (impl_ApplyFeed.l0 kq x6_2 l1 (l1.length : Int) x22_2 = some (r1, r2)) ∧ Aside0 (kq ≤ kj2) ∧ Aside0 (Kd.R k29 29 w' w.heap.size (fun _ => True) v6 x6_2) ∧ Aside0 (Below w.heap.size w w'))
        case atStart => exact ⟨(t323), (0), (by first | rfl | (simp; done) | (simp [*]; done) | (simp [bne_nil_, beq_nil_]; done)), H', ⟨Nat.le_refl _⟩, ⟨by (with_reducible repeat (first | apply Kd.R_alloc | apply Kd.R_drewN | apply Kd.R_drew)); exact HO325.out⟩, ⟨bp HB.out⟩⟩
        case round =>
          clear H'
          try clear c1
          try clear p2
          try clear c3
          try clear c5
          try clear p6
          try clear c9
          try clear c10
          try clear p2
          obtain ⟨x6_2, x22_2, rfl, HA, HK2, HO_6, HB⟩ := hrel
          cases gk with
          | zero => exact absurd HA.out (by simp [impl_ApplyFeed.l0])
          | succ k2 =>
            have H := HA.out
            clear HA
            simp only [impl_ApplyFeed.l0] at H
            by_cases c13 : x22_2 < (l1.length : Int)
            · rw [if_pos c13] at H
              have c13b0 : decide (x22_2 < (l1.length : Int)) = true := decide_eq_true c13
              clear c13
              by_cases c14 : 0 ≤ x22_2
              · rw [if_pos c14] at H
                have c14b0 : decide (0 ≤ x22_2) = true := decide_eq_true c14
                clear c14
                by_cases c15 : x22_2 < (l1.length : Int)
                · rw [if_pos c15] at H
                  have c15b0 : decide (x22_2 < (l1.length : Int)) = true := decide_eq_true c15
                  clear c15
                  replace H := Option.bind_eq_some_iff.mp H
                  obtain ⟨t328, A160, H⟩ := H
                  replace H : (if t328 = ((rd_T75 l1 x22_2).f2) then (if ((rd_T75 l1 x22_2).f3) = (-1) then ((impl_PairDrop.f k2 x6_2 ((rd_T75 l1 x22_2).f1)).bind fun bt329 => (if bt329.2 = true then (impl_ApplyFeed.l0 k2 bt329.1 l1 (l1.length : Int) (wrap64 (x22_2 + 1))) else (some (([] : List (S29)), false)))) else ((impl_PairPut.f k2 x6_2 ((rd_T75 l1 x22_2).f1) ((rd_T75 l1 x22_2).f3)).bind fun bt333 => (if bt333.2 = true then (impl_ApplyFeed.l0 k2 bt333.1 l1 (l1.length : Int) (wrap64 (x22_2 + 1))) else (some (([] : List (S29)), false))))) else (some (([] : List (S29)), false))) = some (r1, r2) := H
                  have A16 := Aside0.mk A160
                  clear A160
                  by_cases c17 : t328 = ((rd_T75 l1 x22_2).f2)
                  · rw [if_pos c17] at H
                    have c17b0 : (t328 == ((rd_T75 l1 x22_2).f2)) = true := beq_iff_eq.mpr c17
                    have c17b1 : (t328 != ((rd_T75 l1 x22_2).f2)) = false := bne_eq_false_iff_eq.mpr c17
                    clear c17
                    by_cases c18 : ((rd_T75 l1 x22_2).f3) = (-1)
                    · rw [if_pos c18] at H
                      have c18b0 : (((rd_T75 l1 x22_2).f3) == (-1)) = true := beq_iff_eq.mpr c18
                      have c18b1 : (((rd_T75 l1 x22_2).f3) != (-1)) = false := bne_eq_false_iff_eq.mpr c18
                      clear c18
                      replace H := Option.bind_eq_some_iff.mp H
                      obtain ⟨⟨t329, t330⟩, A190, H⟩ := H
                      replace H : (if t330 = true then (impl_ApplyFeed.l0 k2 t329 l1 (l1.length : Int) (wrap64 (x22_2 + 1))) else (some (([] : List (S29)), false))) = some (r1, r2) := H
                      have A19 := Aside0.mk A190
                      clear A190
                      by_cases c20 : t330 = true
                      · subst c20
                        have H1 : (impl_ApplyFeed.l0 k2 t329 l1 (l1.length : Int) (wrap64 (x22_2 + 1))) = some (r1, r2) := by rw [if_pos rfl] at H; exact H
                        clear H
                        have H := H1
                        clear H1
                        have H' := Aside0.mk H
                        clear H
                        have p326 : 0 ≤ (x22_2 : Int) := of_decide_eq_true (by first | (with_reducible assumption) | assumption)
                        have q326 : x22_2 < (l1.length : Int) := of_decide_eq_true (by first | (with_reducible assumption) | assumption)
                        obtain ⟨ad326, e326, hx326_0, hx326_1, hx326_2, hx326_3⟩ := at_T75 HR1.out x22_2 p326 q326
                        cases e326
                        replace hx326_0 := hcx HB hx326_0
                        replace hx326_1 := hcx HB hx326_1
                        replace hx326_2 := hcx HB hx326_2
                        replace hx326_3 := hcx HB hx326_3
                        replace p326 := eq_true p326
                        replace q326 := eq_true q326
                        try go_wp2_with (first | ((with_reducible refine gate_dst (N := 8) rfl ?_); refine bxe (N := 8) (cs := #[.int .i64 0, .string (⟨#[]⟩ : ByteArray), .int .i64 0, .int .i64 0]) (t := 75) ?_; intro gb327 hg w21 hbox hb; have n0_ := Aside0.mk (Kd.R_below (kr HO_6.out) hb); have n1_ := an0 HB hb; have n2_ := Aside0.mk (hbox); have n3_ := an2 HB hg; have n4_ := an2 HB hg; clear HO_6; clear HB; have HO_6 := n0_; have HB := n1_; have BK327 := n2_; have GW327 := n3_; have GE327 := n4_; clear n0_ n1_ n2_ n3_ n4_; clear hb hbox hg; obtain ⟨hcz22_0, hcz22_1, hcz22_2, hcz22_3, hfz22_0, hfz22_1, hfz22_2, hfz22_3⟩ := cl4 BK327))
                        have n0_ : Aside0 (Kd.R k29 29 ((((w21.setCell ⟨gb327, 0, none⟩ (.int .i64 ((rd_T75 l1 x22_2).f0))).setCell ⟨gb327, 1, none⟩ (.string ((rd_T75 l1 x22_2).f1))).setCell ⟨gb327, 2, none⟩ (.int .i64 ((rd_T75 l1 x22_2).f2))).setCell ⟨gb327, 3, none⟩ (.int .i64 ((rd_T75 l1 x22_2).f3))) w.heap.size (fun _ => True) u6 x6_2) := ⟨by (with_reducible repeat (first | apply Kd.R_alloc | apply Kd.R_drewN | apply Kd.R_drew)); exact Kd.R_mono (Kd.R_far (p := ⟨gb327, 3, none⟩) (Kd.R_far (p := ⟨gb327, 2, none⟩) (Kd.R_far (p := ⟨gb327, 1, none⟩) (Kd.R_far (p := ⟨gb327, 0, none⟩) (Kd.R_types HO_6.out BK327.out (by decide)) (fun _ hk => hk.2) (.int .i64 ((rd_T75 l1 x22_2).f0))) (fun _ hk => hk.2) (.string ((rd_T75 l1 x22_2).f1))) (fun _ hk => hk.2) (.int .i64 ((rd_T75 l1 x22_2).f2))) (fun _ hk => hk.2) (.int .i64 ((rd_T75 l1 x22_2).f3))) (fun _ hk => trivial)⟩
                        have n1_ : Aside0 (((((w21.setCell ⟨gb327, 0, none⟩ (.int .i64 ((rd_T75 l1 x22_2).f0))).setCell ⟨gb327, 1, none⟩ (.string ((rd_T75 l1 x22_2).f1))).setCell ⟨gb327, 2, none⟩ (.int .i64 ((rd_T75 l1 x22_2).f2))).setCell ⟨gb327, 3, none⟩ (.int .i64 ((rd_T75 l1 x22_2).f3))).heap[gb327]? = some (.cells #[.int .i64 ((rd_T75 l1 x22_2).f0), .string ((rd_T75 l1 x22_2).f1), .int .i64 ((rd_T75 l1 x22_2).f2), .int .i64 ((rd_T75 l1 x22_2).f3)] 75 (0, 0))) := ⟨by (with_reducible repeat (first | refine blk_drewN ?_ _ | refine blk_drew ?_ | refine blk_alloc ?_ _)); refine blk_put (cs := #[.int .i64 ((rd_T75 l1 x22_2).f0), .string ((rd_T75 l1 x22_2).f1), .int .i64 ((rd_T75 l1 x22_2).f2), .int .i64 0]) ?_ 3 _ rfl; (with_reducible repeat (first | refine blk_drewN ?_ _ | refine blk_drew ?_ | refine blk_alloc ?_ _)); refine blk_put (cs := #[.int .i64 ((rd_T75 l1 x22_2).f0), .string ((rd_T75 l1 x22_2).f1), .int .i64 0, .int .i64 0]) ?_ 2 _ rfl; (with_reducible repeat (first | refine blk_drewN ?_ _ | refine blk_drew ?_ | refine blk_alloc ?_ _)); refine blk_put (cs := #[.int .i64 ((rd_T75 l1 x22_2).f0), .string (⟨#[]⟩ : ByteArray), .int .i64 0, .int .i64 0]) ?_ 1 _ rfl; (with_reducible repeat (first | refine blk_drewN ?_ _ | refine blk_drew ?_ | refine blk_alloc ?_ _)); refine blk_put (cs := #[.int .i64 0, .string (⟨#[]⟩ : ByteArray), .int .i64 0, .int .i64 0]) ?_ 0 _ rfl; (with_reducible repeat (first | refine blk_drewN ?_ _ | refine blk_drew ?_ | refine blk_alloc ?_ _)); exact BK327.out⟩
                        have n2_ : Aside0 (Below w.heap.size w ((((w21.setCell ⟨gb327, 0, none⟩ (.int .i64 ((rd_T75 l1 x22_2).f0))).setCell ⟨gb327, 1, none⟩ (.string ((rd_T75 l1 x22_2).f1))).setCell ⟨gb327, 2, none⟩ (.int .i64 ((rd_T75 l1 x22_2).f2))).setCell ⟨gb327, 3, none⟩ (.int .i64 ((rd_T75 l1 x22_2).f3)))) := ⟨bp HB.out⟩
                        (try clear HO_6)
                        (try clear BK327)
                        (try clear HB)
                        generalize ((((w21.setCell ⟨gb327, 0, none⟩ (.int .i64 ((rd_T75 l1 x22_2).f0))).setCell ⟨gb327, 1, none⟩ (.string ((rd_T75 l1 x22_2).f1))).setCell ⟨gb327, 2, none⟩ (.int .i64 ((rd_T75 l1 x22_2).f2))).setCell ⟨gb327, 3, none⟩ (.int .i64 ((rd_T75 l1 x22_2).f3))) = w23 at n0_ n1_ n2_ ⊢
                        have HO_6 := n0_
                        have BK327 := n1_
                        have HB := n2_
                        clear n0_ n1_ n2_
                        have n0_ := Aside0.mk (Kd.R_drew HO_6.out)
                        have n1_ := Aside0.mk (blk_drew BK327.out)
                        have n2_ := Aside0.mk (below_drew1 HB.out)
                        clear HO_6
                        clear BK327
                        clear HB
                        have HO_6 := n0_
                        have BK327 := n1_
                        have HB := n2_
                        clear n0_ n1_ n2_
                        obtain ⟨Ao25, co25, eo25⟩ := Kd.R_slice HO_6.out
                        (first | subst eo25 | (injection eo25 with f1_ f2_ f3_; have f4_ := f1_.symm; have f5_ := f3_.symm; clear f1_ f2_ f3_; subst f4_; subst f5_))
                        refine start_ (n := 7) (S := fun w' => w'.cell? ⟨gb327, 0, none⟩ = some (.int .i64 ((rd_T75 l1 x22_2).f0)) ∧ w'.cell? ⟨gb327, 1, none⟩ = some (.string ((rd_T75 l1 x22_2).f1)) ∧ w'.cell? ⟨gb327, 2, none⟩ = some (.int .i64 ((rd_T75 l1 x22_2).f2)) ∧ w'.cell? ⟨gb327, 3, none⟩ = some (.int .i64 ((rd_T75 l1 x22_2).f3))) (ds := []) #[false, false, false, false, false, false, false] (by kernel_rfl) rfl rfl ⟨(blk_cell BK327.out 0).trans rfl, (blk_cell BK327.out 1).trans rfl, (blk_cell BK327.out 2).trans rfl, (blk_cell BK327.out 3).trans rfl⟩ (fun hHeld => ?_)
                        generalize w23.drew = w24 at HO_6 BK327 HB hHeld ⊢
                        refine pure_ (i := 0) (N := some 26) (v := ?_) (a' := ?_) #[true, false, false, false, false, false, false] rfl rfl (by kernel_rfl) (fun _ _ _ h => h) (Or.inl ⟨by rfl, ?_⟩) ?_ ?_
                        rotate_left; focus (intro w'; go_simp; with_reducible rfl)
                        rotate_left; focus (simp only [Act.put, List.setIfInBounds_toArray, List.set_cons_zero, List.set_cons_succ, i64_w, i32_w]; rfl)
                        refine pure_ (i := 1) (N := some 27) (v := ?_) (a' := ?_) #[true, true, false, false, false, false, false] rfl rfl (by kernel_rfl) (fun _ _ _ h => h) (Or.inl ⟨by rfl, ?_⟩) ?_ ?_
                        rotate_left; focus (intro w'; go_simp; with_reducible rfl)
                        rotate_left; focus (simp only [Act.put, List.setIfInBounds_toArray, List.set_cons_zero, List.set_cons_succ, i64_w, i32_w]; rfl)
                        refine pure_ (i := 4) (N := some 30) (v := ?_) (a' := ?_) #[true, true, false, false, true, false, false] rfl rfl (by kernel_rfl) (fun _ _ _ h => h) (Or.inl ⟨by rfl, ?_⟩) ?_ ?_
                        rotate_left; focus (intro w'; go_simp; with_reducible rfl)
                        rotate_left; focus (simp only [Act.put, List.setIfInBounds_toArray, List.set_cons_zero, List.set_cons_succ, i64_w, i32_w]; rfl)
                        refine take_ (i := 2) (N := some 28) (v := ?_) (a' := ?_) #[true, true, true, false, true, false, false] rfl rfl (by kernel_rfl) (fun _ _ _ h => h) (Or.inl ⟨by rfl, ?_⟩) hHeld ?_ ?_
                        rotate_left
                        · rintro w' ⟨s0, s1, s2, s3⟩
                          go_simp
                          with_reducible rfl
                        rotate_left; focus (simp only [Act.put, List.setIfInBounds_toArray, List.set_cons_zero, List.set_cons_succ, i64_w, i32_w]; rfl)
                        refine take_ (i := 5) (N := some 31) (v := ?_) (a' := ?_) #[true, true, true, false, true, true, false] rfl rfl (by kernel_rfl) (fun _ _ _ h => h) (Or.inl ⟨by rfl, ?_⟩) hHeld ?_ ?_
                        rotate_left
                        · rintro w' ⟨s0, s1, s2, s3⟩
                          go_simp
                          with_reducible rfl
                        rotate_left; focus (simp only [Act.put, List.setIfInBounds_toArray, List.set_cons_zero, List.set_cons_succ, i64_w, i32_w]; rfl)
                        refine one_ (i := 3) (N := some 29) #[true, true, true, true, true, true, false] rfl rfl (by kernel_rfl) (by decide) (fun K hK => ?_)
                        refine goes_ Try.func97 (by kernel_rfl) rfl #[.slice Ao25 x6_2.length co25, .string ((rd_T75 l1 x22_2).f1)] (by rfl) rfl rfl (by (try simp only [List.map_toArray, List.map_cons, List.map_nil]); first | done | rfl | (simp only [List.length_drop, List.length_take]; rfl)) ?_
                        with_reducible refine (impl_PairGet.calls k2 _ _ x6_2 ((rd_T75 l1 x22_2).f1) t328 _ ?side1 ?side2 A16.out).mono ?_
                        (case side1 => exact impl_ApplyFeed.s0 HO_6.out)
                        (case side2 => exact (Kd.R_reads' HO_6.out).2.1)
                        rintro e w26 ⟨rfl, hb⟩
                        refine ⟨_, rfl, ?_⟩
                        have n0_ := Aside0.mk (Kd.R_below (kr HO_6.out) hb)
                        have n1_ := an1 BK327 hb
                        have n2_ := an0 HB hb
                        clear HO_6
                        clear BK327
                        clear HB
                        have HO_6 := n0_
                        have BK327 := n1_
                        have HB := n2_
                        clear n0_ n1_ n2_
                        (try clear hb)
                        (try clear hb2)
                        (try clear hk)
                        (try clear hi)
                        refine hK.out _ _ ⟨(blk_cell BK327.out 0).trans rfl, (blk_cell BK327.out 1).trans rfl, (blk_cell BK327.out 2).trans rfl, (blk_cell BK327.out 3).trans rfl⟩ (fun hHeld => ?_)
                        clear hK K
                        refine norm_ (a' := ?_) ?_ ?_
                        rotate_left
                        · show Act.put _ (some 29) _ = _
                          simp only [Act.put, List.setIfInBounds_toArray, List.set_cons_zero, List.set_cons_succ, i64_w, i32_w]
                          rfl
                        refine pure_ (i := 6) (N := some 32) (v := ?_) (a' := ?_) #[true, true, true, true, true, true, true] rfl rfl (by kernel_rfl) (fun _ _ _ h => h) (Or.inl ⟨by rfl, ?_⟩) ?_ ?_
                        rotate_left; focus (intro w'; go_simp; with_reducible rfl)
                        rotate_left; focus (simp only [Act.put, List.setIfInBounds_toArray, List.set_cons_zero, List.set_cons_succ, i64_w, i32_w]; rfl)
                        refine done_ (by kernel_rfl) ?_
                        obtain ⟨hcz27_0, hcz27_1, hcz27_2, hcz27_3, hfz27_0, hfz27_1, hfz27_2, hfz27_3⟩ := cl4 BK327
                        try go_wp2_with (first | ((with_reducible refine gate_callee (f := 98) rfl ?_); refine gsl (some 40) rfl Try.func98 #[.slice Ao25 x6_2.length co25, .string ((rd_T75 l1 x22_2).f1)] rfl ?_; (with_reducible refine (impl_PairDrop.calls k2 _ _ x6_2 ((rd_T75 l1 x22_2).f1) t329 true _ ?side1 ?side2 A19.out).mono ?_); (case side1 => exact impl_ApplyFeed.s0 HO_6.out); (case side2 => exact (Kd.R_reads' HO_6.out).2.1); rintro e w28 ⟨v331, rfl, ho0, hb⟩; refine ⟨_, rfl, ?_⟩; have n0_ := Aside0.mk (Kd.R_elder' (kr HO_6.out) (Kd.R_base ho0) hb); have n1_ := Aside0.mk (Kd.R_lower (Kd.R_new' ho0 (Kd.R_lt (kr HO_6.out))) (below_size (bp HB.out))); have n2_ := an1 BK327 hb; have n3_ := an0 HB hb; clear HO_6; clear BK327; clear HB; have HO_6 := n0_; have HO332 := n1_; have BK327 := n2_; have HB := n3_; clear n0_ n1_ n2_ n3_; (try clear hb); (try clear hb2); (try clear hk); (try clear hi); (try clear ho0)))
                        go_roundg k2
                        case measure => have := HJ2.out; have := HK2.out; omega
                        case rel => exact ⟨(t329), (wrap64 (x22_2 + 1)), (by first | rfl | (simp; done) | (simp [*]; done) | (simp [bne_nil_, beq_nil_]; done)), H', ⟨by have := HJ2.out; have := HK2.out; omega⟩, ⟨by (with_reducible repeat (first | apply Kd.R_alloc | apply Kd.R_drewN | apply Kd.R_drew)); exact Kd.R_mono HO332.out (fun _ hk => trivial)⟩, ⟨bp HB.out⟩⟩
                      · replace c20 := Bool.eq_false_iff.mpr c20
                        subst c20
                        have H1 : (some (([] : List (S29)), false)) = some (r1, r2) := by rw [if_neg (show ¬ (false = true) by decide)] at H; exact H
                        clear H
                        have H := H1
                        clear H1
                        simp only [Option.some.injEq, Prod.mk.injEq] at H
                        obtain ⟨rfl, rfl⟩ := H
                        have p326 : 0 ≤ (x22_2 : Int) := of_decide_eq_true (by first | (with_reducible assumption) | assumption)
                        have q326 : x22_2 < (l1.length : Int) := of_decide_eq_true (by first | (with_reducible assumption) | assumption)
                        obtain ⟨ad326, e326, hx326_0, hx326_1, hx326_2, hx326_3⟩ := at_T75 HR1.out x22_2 p326 q326
                        cases e326
                        replace hx326_0 := hcx HB hx326_0
                        replace hx326_1 := hcx HB hx326_1
                        replace hx326_2 := hcx HB hx326_2
                        replace hx326_3 := hcx HB hx326_3
                        replace p326 := eq_true p326
                        replace q326 := eq_true q326
                        try go_wp2_with (first | ((with_reducible refine gate_dst (N := 8) rfl ?_); refine bxe (N := 8) (cs := #[.int .i64 0, .string (⟨#[]⟩ : ByteArray), .int .i64 0, .int .i64 0]) (t := 75) ?_; intro gb327 hg w29 hbox hb; have n0_ := Aside0.mk (Kd.R_below (kr HO_6.out) hb); have n1_ := an0 HB hb; have n2_ := Aside0.mk (hbox); have n3_ := an2 HB hg; have n4_ := an2 HB hg; clear HO_6; clear HB; have HO_6 := n0_; have HB := n1_; have BK327 := n2_; have GW327 := n3_; have GE327 := n4_; clear n0_ n1_ n2_ n3_ n4_; clear hb hbox hg; obtain ⟨hcz30_0, hcz30_1, hcz30_2, hcz30_3, hfz30_0, hfz30_1, hfz30_2, hfz30_3⟩ := cl4 BK327))
                        have n0_ : Aside0 (Kd.R k29 29 ((((w29.setCell ⟨gb327, 0, none⟩ (.int .i64 ((rd_T75 l1 x22_2).f0))).setCell ⟨gb327, 1, none⟩ (.string ((rd_T75 l1 x22_2).f1))).setCell ⟨gb327, 2, none⟩ (.int .i64 ((rd_T75 l1 x22_2).f2))).setCell ⟨gb327, 3, none⟩ (.int .i64 ((rd_T75 l1 x22_2).f3))) w.heap.size (fun _ => True) u6 x6_2) := ⟨by (with_reducible repeat (first | apply Kd.R_alloc | apply Kd.R_drewN | apply Kd.R_drew)); exact Kd.R_mono (Kd.R_far (p := ⟨gb327, 3, none⟩) (Kd.R_far (p := ⟨gb327, 2, none⟩) (Kd.R_far (p := ⟨gb327, 1, none⟩) (Kd.R_far (p := ⟨gb327, 0, none⟩) (Kd.R_types HO_6.out BK327.out (by decide)) (fun _ hk => hk.2) (.int .i64 ((rd_T75 l1 x22_2).f0))) (fun _ hk => hk.2) (.string ((rd_T75 l1 x22_2).f1))) (fun _ hk => hk.2) (.int .i64 ((rd_T75 l1 x22_2).f2))) (fun _ hk => hk.2) (.int .i64 ((rd_T75 l1 x22_2).f3))) (fun _ hk => trivial)⟩
                        have n1_ : Aside0 (((((w29.setCell ⟨gb327, 0, none⟩ (.int .i64 ((rd_T75 l1 x22_2).f0))).setCell ⟨gb327, 1, none⟩ (.string ((rd_T75 l1 x22_2).f1))).setCell ⟨gb327, 2, none⟩ (.int .i64 ((rd_T75 l1 x22_2).f2))).setCell ⟨gb327, 3, none⟩ (.int .i64 ((rd_T75 l1 x22_2).f3))).heap[gb327]? = some (.cells #[.int .i64 ((rd_T75 l1 x22_2).f0), .string ((rd_T75 l1 x22_2).f1), .int .i64 ((rd_T75 l1 x22_2).f2), .int .i64 ((rd_T75 l1 x22_2).f3)] 75 (0, 0))) := ⟨by (with_reducible repeat (first | refine blk_drewN ?_ _ | refine blk_drew ?_ | refine blk_alloc ?_ _)); refine blk_put (cs := #[.int .i64 ((rd_T75 l1 x22_2).f0), .string ((rd_T75 l1 x22_2).f1), .int .i64 ((rd_T75 l1 x22_2).f2), .int .i64 0]) ?_ 3 _ rfl; (with_reducible repeat (first | refine blk_drewN ?_ _ | refine blk_drew ?_ | refine blk_alloc ?_ _)); refine blk_put (cs := #[.int .i64 ((rd_T75 l1 x22_2).f0), .string ((rd_T75 l1 x22_2).f1), .int .i64 0, .int .i64 0]) ?_ 2 _ rfl; (with_reducible repeat (first | refine blk_drewN ?_ _ | refine blk_drew ?_ | refine blk_alloc ?_ _)); refine blk_put (cs := #[.int .i64 ((rd_T75 l1 x22_2).f0), .string (⟨#[]⟩ : ByteArray), .int .i64 0, .int .i64 0]) ?_ 1 _ rfl; (with_reducible repeat (first | refine blk_drewN ?_ _ | refine blk_drew ?_ | refine blk_alloc ?_ _)); refine blk_put (cs := #[.int .i64 0, .string (⟨#[]⟩ : ByteArray), .int .i64 0, .int .i64 0]) ?_ 0 _ rfl; (with_reducible repeat (first | refine blk_drewN ?_ _ | refine blk_drew ?_ | refine blk_alloc ?_ _)); exact BK327.out⟩
                        have n2_ : Aside0 (Below w.heap.size w ((((w29.setCell ⟨gb327, 0, none⟩ (.int .i64 ((rd_T75 l1 x22_2).f0))).setCell ⟨gb327, 1, none⟩ (.string ((rd_T75 l1 x22_2).f1))).setCell ⟨gb327, 2, none⟩ (.int .i64 ((rd_T75 l1 x22_2).f2))).setCell ⟨gb327, 3, none⟩ (.int .i64 ((rd_T75 l1 x22_2).f3)))) := ⟨bp HB.out⟩
                        (try clear HO_6)
                        (try clear BK327)
                        (try clear HB)
                        generalize ((((w29.setCell ⟨gb327, 0, none⟩ (.int .i64 ((rd_T75 l1 x22_2).f0))).setCell ⟨gb327, 1, none⟩ (.string ((rd_T75 l1 x22_2).f1))).setCell ⟨gb327, 2, none⟩ (.int .i64 ((rd_T75 l1 x22_2).f2))).setCell ⟨gb327, 3, none⟩ (.int .i64 ((rd_T75 l1 x22_2).f3))) = w31 at n0_ n1_ n2_ ⊢
                        have HO_6 := n0_
                        have BK327 := n1_
                        have HB := n2_
                        clear n0_ n1_ n2_
                        have n0_ := Aside0.mk (Kd.R_drew HO_6.out)
                        have n1_ := Aside0.mk (blk_drew BK327.out)
                        have n2_ := Aside0.mk (below_drew1 HB.out)
                        clear HO_6
                        clear BK327
                        clear HB
                        have HO_6 := n0_
                        have BK327 := n1_
                        have HB := n2_
                        clear n0_ n1_ n2_
                        obtain ⟨Ao33, co33, eo33⟩ := Kd.R_slice HO_6.out
                        (first | subst eo33 | (injection eo33 with f1_ f2_ f3_; have f4_ := f1_.symm; have f5_ := f3_.symm; clear f1_ f2_ f3_; subst f4_; subst f5_))
                        refine start_ (n := 7) (S := fun w' => w'.cell? ⟨gb327, 0, none⟩ = some (.int .i64 ((rd_T75 l1 x22_2).f0)) ∧ w'.cell? ⟨gb327, 1, none⟩ = some (.string ((rd_T75 l1 x22_2).f1)) ∧ w'.cell? ⟨gb327, 2, none⟩ = some (.int .i64 ((rd_T75 l1 x22_2).f2)) ∧ w'.cell? ⟨gb327, 3, none⟩ = some (.int .i64 ((rd_T75 l1 x22_2).f3))) (ds := []) #[false, false, false, false, false, false, false] (by kernel_rfl) rfl rfl ⟨(blk_cell BK327.out 0).trans rfl, (blk_cell BK327.out 1).trans rfl, (blk_cell BK327.out 2).trans rfl, (blk_cell BK327.out 3).trans rfl⟩ (fun hHeld => ?_)
                        generalize w31.drew = w32 at HO_6 BK327 HB hHeld ⊢
                        refine pure_ (i := 0) (N := some 26) (v := ?_) (a' := ?_) #[true, false, false, false, false, false, false] rfl rfl (by kernel_rfl) (fun _ _ _ h => h) (Or.inl ⟨by rfl, ?_⟩) ?_ ?_
                        rotate_left; focus (intro w'; go_simp; with_reducible rfl)
                        rotate_left; focus (simp only [Act.put, List.setIfInBounds_toArray, List.set_cons_zero, List.set_cons_succ, i64_w, i32_w]; rfl)
                        refine pure_ (i := 1) (N := some 27) (v := ?_) (a' := ?_) #[true, true, false, false, false, false, false] rfl rfl (by kernel_rfl) (fun _ _ _ h => h) (Or.inl ⟨by rfl, ?_⟩) ?_ ?_
                        rotate_left; focus (intro w'; go_simp; with_reducible rfl)
                        rotate_left; focus (simp only [Act.put, List.setIfInBounds_toArray, List.set_cons_zero, List.set_cons_succ, i64_w, i32_w]; rfl)
                        refine pure_ (i := 4) (N := some 30) (v := ?_) (a' := ?_) #[true, true, false, false, true, false, false] rfl rfl (by kernel_rfl) (fun _ _ _ h => h) (Or.inl ⟨by rfl, ?_⟩) ?_ ?_
                        rotate_left; focus (intro w'; go_simp; with_reducible rfl)
                        rotate_left; focus (simp only [Act.put, List.setIfInBounds_toArray, List.set_cons_zero, List.set_cons_succ, i64_w, i32_w]; rfl)
                        refine take_ (i := 2) (N := some 28) (v := ?_) (a' := ?_) #[true, true, true, false, true, false, false] rfl rfl (by kernel_rfl) (fun _ _ _ h => h) (Or.inl ⟨by rfl, ?_⟩) hHeld ?_ ?_
                        rotate_left
                        · rintro w' ⟨s0, s1, s2, s3⟩
                          go_simp
                          with_reducible rfl
                        rotate_left; focus (simp only [Act.put, List.setIfInBounds_toArray, List.set_cons_zero, List.set_cons_succ, i64_w, i32_w]; rfl)
                        refine take_ (i := 5) (N := some 31) (v := ?_) (a' := ?_) #[true, true, true, false, true, true, false] rfl rfl (by kernel_rfl) (fun _ _ _ h => h) (Or.inl ⟨by rfl, ?_⟩) hHeld ?_ ?_
                        rotate_left
                        · rintro w' ⟨s0, s1, s2, s3⟩
                          go_simp
                          with_reducible rfl
                        rotate_left; focus (simp only [Act.put, List.setIfInBounds_toArray, List.set_cons_zero, List.set_cons_succ, i64_w, i32_w]; rfl)
                        refine one_ (i := 3) (N := some 29) #[true, true, true, true, true, true, false] rfl rfl (by kernel_rfl) (by decide) (fun K hK => ?_)
                        refine goes_ Try.func97 (by kernel_rfl) rfl #[.slice Ao33 x6_2.length co33, .string ((rd_T75 l1 x22_2).f1)] (by rfl) rfl rfl (by (try simp only [List.map_toArray, List.map_cons, List.map_nil]); first | done | rfl | (simp only [List.length_drop, List.length_take]; rfl)) ?_
                        with_reducible refine (impl_PairGet.calls k2 _ _ x6_2 ((rd_T75 l1 x22_2).f1) t328 _ ?side1 ?side2 A16.out).mono ?_
                        (case side1 => exact impl_ApplyFeed.s0 HO_6.out)
                        (case side2 => exact (Kd.R_reads' HO_6.out).2.1)
                        rintro e w34 ⟨rfl, hb⟩
                        refine ⟨_, rfl, ?_⟩
                        have n0_ := Aside0.mk (Kd.R_below (kr HO_6.out) hb)
                        have n1_ := an1 BK327 hb
                        have n2_ := an0 HB hb
                        clear HO_6
                        clear BK327
                        clear HB
                        have HO_6 := n0_
                        have BK327 := n1_
                        have HB := n2_
                        clear n0_ n1_ n2_
                        (try clear hb)
                        (try clear hb2)
                        (try clear hk)
                        (try clear hi)
                        refine hK.out _ _ ⟨(blk_cell BK327.out 0).trans rfl, (blk_cell BK327.out 1).trans rfl, (blk_cell BK327.out 2).trans rfl, (blk_cell BK327.out 3).trans rfl⟩ (fun hHeld => ?_)
                        clear hK K
                        refine norm_ (a' := ?_) ?_ ?_
                        rotate_left
                        · show Act.put _ (some 29) _ = _
                          simp only [Act.put, List.setIfInBounds_toArray, List.set_cons_zero, List.set_cons_succ, i64_w, i32_w]
                          rfl
                        refine pure_ (i := 6) (N := some 32) (v := ?_) (a' := ?_) #[true, true, true, true, true, true, true] rfl rfl (by kernel_rfl) (fun _ _ _ h => h) (Or.inl ⟨by rfl, ?_⟩) ?_ ?_
                        rotate_left; focus (intro w'; go_simp; with_reducible rfl)
                        rotate_left; focus (simp only [Act.put, List.setIfInBounds_toArray, List.set_cons_zero, List.set_cons_succ, i64_w, i32_w]; rfl)
                        refine done_ (by kernel_rfl) ?_
                        obtain ⟨hcz35_0, hcz35_1, hcz35_2, hcz35_3, hfz35_0, hfz35_1, hfz35_2, hfz35_3⟩ := cl4 BK327
                        try go_wp2_with (first | ((with_reducible refine gate_callee (f := 98) rfl ?_); refine gsl (some 40) rfl Try.func98 #[.slice Ao33 x6_2.length co33, .string ((rd_T75 l1 x22_2).f1)] rfl ?_; (with_reducible refine (impl_PairDrop.calls k2 _ _ x6_2 ((rd_T75 l1 x22_2).f1) t329 false _ ?side1 ?side2 A19.out).mono ?_); (case side1 => exact impl_ApplyFeed.s0 HO_6.out); (case side2 => exact (Kd.R_reads' HO_6.out).2.1); rintro e w36 ⟨v331, rfl, ho0, hb⟩; refine ⟨_, rfl, ?_⟩; have n0_ := Aside0.mk (Kd.R_elder' (kr HO_6.out) (Kd.R_base ho0) hb); have n1_ := Aside0.mk (Kd.R_lower (Kd.R_new' ho0 (Kd.R_lt (kr HO_6.out))) (below_size (bp HB.out))); have n2_ := an1 BK327 hb; have n3_ := an0 HB hb; clear HO_6; clear BK327; clear HB; have HO_6 := n0_; have HO332 := n1_; have BK327 := n2_; have HB := n3_; clear n0_ n1_ n2_ n3_; (try clear hb); (try clear hb2); (try clear hk); (try clear hi); (try clear ho0)))
                        go_ret2
                        exact ⟨_, fe, by first | exact Kd.R_nil _ _ _ _ _ | exact Kd.N_nil _ _ _ _ _ | exact Kd.V_nil _ _ _ _ _ | exact Kd.Q_nil _ _ _ _ _ | exact Kd.S_nil _ _ _ _ _, bp HB.out⟩
                    · rw [if_neg c18] at H
                      have c18b0 : (((rd_T75 l1 x22_2).f3) == (-1)) = false := beq_eq_false_iff_ne.mpr c18
                      have c18b1 : (((rd_T75 l1 x22_2).f3) != (-1)) = true := bne_iff_ne.mpr c18
                      replace H := Option.bind_eq_some_iff.mp H
                      obtain ⟨⟨t333, t334⟩, A370, H⟩ := H
                      replace H : (if t334 = true then (impl_ApplyFeed.l0 k2 t333 l1 (l1.length : Int) (wrap64 (x22_2 + 1))) else (some (([] : List (S29)), false))) = some (r1, r2) := H
                      have A37 := Aside0.mk A370
                      clear A370
                      by_cases c38 : t334 = true
                      · subst c38
                        have H1 : (impl_ApplyFeed.l0 k2 t333 l1 (l1.length : Int) (wrap64 (x22_2 + 1))) = some (r1, r2) := by rw [if_pos rfl] at H; exact H
                        clear H
                        have H := H1
                        clear H1
                        have H' := Aside0.mk H
                        clear H
                        have p326 : 0 ≤ (x22_2 : Int) := of_decide_eq_true (by first | (with_reducible assumption) | assumption)
                        have q326 : x22_2 < (l1.length : Int) := of_decide_eq_true (by first | (with_reducible assumption) | assumption)
                        obtain ⟨ad326, e326, hx326_0, hx326_1, hx326_2, hx326_3⟩ := at_T75 HR1.out x22_2 p326 q326
                        cases e326
                        replace hx326_0 := hcx HB hx326_0
                        replace hx326_1 := hcx HB hx326_1
                        replace hx326_2 := hcx HB hx326_2
                        replace hx326_3 := hcx HB hx326_3
                        replace p326 := eq_true p326
                        replace q326 := eq_true q326
                        try go_wp2_with (first | ((with_reducible refine gate_dst (N := 8) rfl ?_); refine bxe (N := 8) (cs := #[.int .i64 0, .string (⟨#[]⟩ : ByteArray), .int .i64 0, .int .i64 0]) (t := 75) ?_; intro gb327 hg w39 hbox hb; have n0_ := Aside0.mk (Kd.R_below (kr HO_6.out) hb); have n1_ := an0 HB hb; have n2_ := Aside0.mk (hbox); have n3_ := an2 HB hg; have n4_ := an2 HB hg; clear HO_6; clear HB; have HO_6 := n0_; have HB := n1_; have BK327 := n2_; have GW327 := n3_; have GE327 := n4_; clear n0_ n1_ n2_ n3_ n4_; clear hb hbox hg; obtain ⟨hcz40_0, hcz40_1, hcz40_2, hcz40_3, hfz40_0, hfz40_1, hfz40_2, hfz40_3⟩ := cl4 BK327))
                        have n0_ : Aside0 (Kd.R k29 29 ((((w39.setCell ⟨gb327, 0, none⟩ (.int .i64 ((rd_T75 l1 x22_2).f0))).setCell ⟨gb327, 1, none⟩ (.string ((rd_T75 l1 x22_2).f1))).setCell ⟨gb327, 2, none⟩ (.int .i64 ((rd_T75 l1 x22_2).f2))).setCell ⟨gb327, 3, none⟩ (.int .i64 ((rd_T75 l1 x22_2).f3))) w.heap.size (fun _ => True) u6 x6_2) := ⟨by (with_reducible repeat (first | apply Kd.R_alloc | apply Kd.R_drewN | apply Kd.R_drew)); exact Kd.R_mono (Kd.R_far (p := ⟨gb327, 3, none⟩) (Kd.R_far (p := ⟨gb327, 2, none⟩) (Kd.R_far (p := ⟨gb327, 1, none⟩) (Kd.R_far (p := ⟨gb327, 0, none⟩) (Kd.R_types HO_6.out BK327.out (by decide)) (fun _ hk => hk.2) (.int .i64 ((rd_T75 l1 x22_2).f0))) (fun _ hk => hk.2) (.string ((rd_T75 l1 x22_2).f1))) (fun _ hk => hk.2) (.int .i64 ((rd_T75 l1 x22_2).f2))) (fun _ hk => hk.2) (.int .i64 ((rd_T75 l1 x22_2).f3))) (fun _ hk => trivial)⟩
                        have n1_ : Aside0 (((((w39.setCell ⟨gb327, 0, none⟩ (.int .i64 ((rd_T75 l1 x22_2).f0))).setCell ⟨gb327, 1, none⟩ (.string ((rd_T75 l1 x22_2).f1))).setCell ⟨gb327, 2, none⟩ (.int .i64 ((rd_T75 l1 x22_2).f2))).setCell ⟨gb327, 3, none⟩ (.int .i64 ((rd_T75 l1 x22_2).f3))).heap[gb327]? = some (.cells #[.int .i64 ((rd_T75 l1 x22_2).f0), .string ((rd_T75 l1 x22_2).f1), .int .i64 ((rd_T75 l1 x22_2).f2), .int .i64 ((rd_T75 l1 x22_2).f3)] 75 (0, 0))) := ⟨by (with_reducible repeat (first | refine blk_drewN ?_ _ | refine blk_drew ?_ | refine blk_alloc ?_ _)); refine blk_put (cs := #[.int .i64 ((rd_T75 l1 x22_2).f0), .string ((rd_T75 l1 x22_2).f1), .int .i64 ((rd_T75 l1 x22_2).f2), .int .i64 0]) ?_ 3 _ rfl; (with_reducible repeat (first | refine blk_drewN ?_ _ | refine blk_drew ?_ | refine blk_alloc ?_ _)); refine blk_put (cs := #[.int .i64 ((rd_T75 l1 x22_2).f0), .string ((rd_T75 l1 x22_2).f1), .int .i64 0, .int .i64 0]) ?_ 2 _ rfl; (with_reducible repeat (first | refine blk_drewN ?_ _ | refine blk_drew ?_ | refine blk_alloc ?_ _)); refine blk_put (cs := #[.int .i64 ((rd_T75 l1 x22_2).f0), .string (⟨#[]⟩ : ByteArray), .int .i64 0, .int .i64 0]) ?_ 1 _ rfl; (with_reducible repeat (first | refine blk_drewN ?_ _ | refine blk_drew ?_ | refine blk_alloc ?_ _)); refine blk_put (cs := #[.int .i64 0, .string (⟨#[]⟩ : ByteArray), .int .i64 0, .int .i64 0]) ?_ 0 _ rfl; (with_reducible repeat (first | refine blk_drewN ?_ _ | refine blk_drew ?_ | refine blk_alloc ?_ _)); exact BK327.out⟩
                        have n2_ : Aside0 (Below w.heap.size w ((((w39.setCell ⟨gb327, 0, none⟩ (.int .i64 ((rd_T75 l1 x22_2).f0))).setCell ⟨gb327, 1, none⟩ (.string ((rd_T75 l1 x22_2).f1))).setCell ⟨gb327, 2, none⟩ (.int .i64 ((rd_T75 l1 x22_2).f2))).setCell ⟨gb327, 3, none⟩ (.int .i64 ((rd_T75 l1 x22_2).f3)))) := ⟨bp HB.out⟩
                        (try clear HO_6)
                        (try clear BK327)
                        (try clear HB)
                        generalize ((((w39.setCell ⟨gb327, 0, none⟩ (.int .i64 ((rd_T75 l1 x22_2).f0))).setCell ⟨gb327, 1, none⟩ (.string ((rd_T75 l1 x22_2).f1))).setCell ⟨gb327, 2, none⟩ (.int .i64 ((rd_T75 l1 x22_2).f2))).setCell ⟨gb327, 3, none⟩ (.int .i64 ((rd_T75 l1 x22_2).f3))) = w41 at n0_ n1_ n2_ ⊢
                        have HO_6 := n0_
                        have BK327 := n1_
                        have HB := n2_
                        clear n0_ n1_ n2_
                        have n0_ := Aside0.mk (Kd.R_drew HO_6.out)
                        have n1_ := Aside0.mk (blk_drew BK327.out)
                        have n2_ := Aside0.mk (below_drew1 HB.out)
                        clear HO_6
                        clear BK327
                        clear HB
                        have HO_6 := n0_
                        have BK327 := n1_
                        have HB := n2_
                        clear n0_ n1_ n2_
                        obtain ⟨Ao43, co43, eo43⟩ := Kd.R_slice HO_6.out
                        (first | subst eo43 | (injection eo43 with f1_ f2_ f3_; have f4_ := f1_.symm; have f5_ := f3_.symm; clear f1_ f2_ f3_; subst f4_; subst f5_))
                        refine start_ (n := 7) (S := fun w' => w'.cell? ⟨gb327, 0, none⟩ = some (.int .i64 ((rd_T75 l1 x22_2).f0)) ∧ w'.cell? ⟨gb327, 1, none⟩ = some (.string ((rd_T75 l1 x22_2).f1)) ∧ w'.cell? ⟨gb327, 2, none⟩ = some (.int .i64 ((rd_T75 l1 x22_2).f2)) ∧ w'.cell? ⟨gb327, 3, none⟩ = some (.int .i64 ((rd_T75 l1 x22_2).f3))) (ds := []) #[false, false, false, false, false, false, false] (by kernel_rfl) rfl rfl ⟨(blk_cell BK327.out 0).trans rfl, (blk_cell BK327.out 1).trans rfl, (blk_cell BK327.out 2).trans rfl, (blk_cell BK327.out 3).trans rfl⟩ (fun hHeld => ?_)
                        generalize w41.drew = w42 at HO_6 BK327 HB hHeld ⊢
                        refine pure_ (i := 0) (N := some 26) (v := ?_) (a' := ?_) #[true, false, false, false, false, false, false] rfl rfl (by kernel_rfl) (fun _ _ _ h => h) (Or.inl ⟨by rfl, ?_⟩) ?_ ?_
                        rotate_left; focus (intro w'; go_simp; with_reducible rfl)
                        rotate_left; focus (simp only [Act.put, List.setIfInBounds_toArray, List.set_cons_zero, List.set_cons_succ, i64_w, i32_w]; rfl)
                        refine pure_ (i := 1) (N := some 27) (v := ?_) (a' := ?_) #[true, true, false, false, false, false, false] rfl rfl (by kernel_rfl) (fun _ _ _ h => h) (Or.inl ⟨by rfl, ?_⟩) ?_ ?_
                        rotate_left; focus (intro w'; go_simp; with_reducible rfl)
                        rotate_left; focus (simp only [Act.put, List.setIfInBounds_toArray, List.set_cons_zero, List.set_cons_succ, i64_w, i32_w]; rfl)
                        refine pure_ (i := 4) (N := some 30) (v := ?_) (a' := ?_) #[true, true, false, false, true, false, false] rfl rfl (by kernel_rfl) (fun _ _ _ h => h) (Or.inl ⟨by rfl, ?_⟩) ?_ ?_
                        rotate_left; focus (intro w'; go_simp; with_reducible rfl)
                        rotate_left; focus (simp only [Act.put, List.setIfInBounds_toArray, List.set_cons_zero, List.set_cons_succ, i64_w, i32_w]; rfl)
                        refine take_ (i := 2) (N := some 28) (v := ?_) (a' := ?_) #[true, true, true, false, true, false, false] rfl rfl (by kernel_rfl) (fun _ _ _ h => h) (Or.inl ⟨by rfl, ?_⟩) hHeld ?_ ?_
                        rotate_left
                        · rintro w' ⟨s0, s1, s2, s3⟩
                          go_simp
                          with_reducible rfl
                        rotate_left; focus (simp only [Act.put, List.setIfInBounds_toArray, List.set_cons_zero, List.set_cons_succ, i64_w, i32_w]; rfl)
                        refine take_ (i := 5) (N := some 31) (v := ?_) (a' := ?_) #[true, true, true, false, true, true, false] rfl rfl (by kernel_rfl) (fun _ _ _ h => h) (Or.inl ⟨by rfl, ?_⟩) hHeld ?_ ?_
                        rotate_left
                        · rintro w' ⟨s0, s1, s2, s3⟩
                          go_simp
                          with_reducible rfl
                        rotate_left; focus (simp only [Act.put, List.setIfInBounds_toArray, List.set_cons_zero, List.set_cons_succ, i64_w, i32_w]; rfl)
                        refine one_ (i := 3) (N := some 29) #[true, true, true, true, true, true, false] rfl rfl (by kernel_rfl) (by decide) (fun K hK => ?_)
                        refine goes_ Try.func97 (by kernel_rfl) rfl #[.slice Ao43 x6_2.length co43, .string ((rd_T75 l1 x22_2).f1)] (by rfl) rfl rfl (by (try simp only [List.map_toArray, List.map_cons, List.map_nil]); first | done | rfl | (simp only [List.length_drop, List.length_take]; rfl)) ?_
                        with_reducible refine (impl_PairGet.calls k2 _ _ x6_2 ((rd_T75 l1 x22_2).f1) t328 _ ?side1 ?side2 A16.out).mono ?_
                        (case side1 => exact impl_ApplyFeed.s0 HO_6.out)
                        (case side2 => exact (Kd.R_reads' HO_6.out).2.1)
                        rintro e w44 ⟨rfl, hb⟩
                        refine ⟨_, rfl, ?_⟩
                        have n0_ := Aside0.mk (Kd.R_below (kr HO_6.out) hb)
                        have n1_ := an1 BK327 hb
                        have n2_ := an0 HB hb
                        clear HO_6
                        clear BK327
                        clear HB
                        have HO_6 := n0_
                        have BK327 := n1_
                        have HB := n2_
                        clear n0_ n1_ n2_
                        (try clear hb)
                        (try clear hb2)
                        (try clear hk)
                        (try clear hi)
                        refine hK.out _ _ ⟨(blk_cell BK327.out 0).trans rfl, (blk_cell BK327.out 1).trans rfl, (blk_cell BK327.out 2).trans rfl, (blk_cell BK327.out 3).trans rfl⟩ (fun hHeld => ?_)
                        clear hK K
                        refine norm_ (a' := ?_) ?_ ?_
                        rotate_left
                        · show Act.put _ (some 29) _ = _
                          simp only [Act.put, List.setIfInBounds_toArray, List.set_cons_zero, List.set_cons_succ, i64_w, i32_w]
                          rfl
                        refine pure_ (i := 6) (N := some 32) (v := ?_) (a' := ?_) #[true, true, true, true, true, true, true] rfl rfl (by kernel_rfl) (fun _ _ _ h => h) (Or.inl ⟨by rfl, ?_⟩) ?_ ?_
                        rotate_left; focus (intro w'; go_simp; with_reducible rfl)
                        rotate_left; focus (simp only [Act.put, List.setIfInBounds_toArray, List.set_cons_zero, List.set_cons_succ, i64_w, i32_w]; rfl)
                        refine done_ (by kernel_rfl) ?_
                        obtain ⟨hcz45_0, hcz45_1, hcz45_2, hcz45_3, hfz45_0, hfz45_1, hfz45_2, hfz45_3⟩ := cl4 BK327
                        try go_wp2_with (first | ((with_reducible refine gate_callee (f := 99) rfl ?_); refine gsl (some 49) rfl Try.func99 #[.slice Ao43 x6_2.length co43, .string ((rd_T75 l1 x22_2).f1), .int .i64 ((rd_T75 l1 x22_2).f3)] rfl ?_; (with_reducible refine (impl_PairPut.calls k2 _ _ x6_2 ((rd_T75 l1 x22_2).f1) ((rd_T75 l1 x22_2).f3) t333 true _ ?side1 ?side2 A37.out).mono ?_); (case side1 => exact impl_ApplyFeed.s0 HO_6.out); (case side2 => exact (Kd.R_reads' HO_6.out).2.1); rintro e w46 ⟨v335, rfl, ho0, hb⟩; refine ⟨_, rfl, ?_⟩; have n0_ := Aside0.mk (Kd.R_elder' (kr HO_6.out) (Kd.R_base ho0) hb); have n1_ := Aside0.mk (Kd.R_lower (Kd.R_new' ho0 (Kd.R_lt (kr HO_6.out))) (below_size (bp HB.out))); have n2_ := an1 BK327 hb; have n3_ := an0 HB hb; clear HO_6; clear BK327; clear HB; have HO_6 := n0_; have HO336 := n1_; have BK327 := n2_; have HB := n3_; clear n0_ n1_ n2_ n3_; (try clear hb); (try clear hb2); (try clear hk); (try clear hi); (try clear ho0)))
                        go_roundg k2
                        case measure => have := HJ2.out; have := HK2.out; omega
                        case rel => exact ⟨(t333), (wrap64 (x22_2 + 1)), (by first | rfl | (simp; done) | (simp [*]; done) | (simp [bne_nil_, beq_nil_]; done)), H', ⟨by have := HJ2.out; have := HK2.out; omega⟩, ⟨by (with_reducible repeat (first | apply Kd.R_alloc | apply Kd.R_drewN | apply Kd.R_drew)); exact Kd.R_mono HO336.out (fun _ hk => trivial)⟩, ⟨bp HB.out⟩⟩
                      · replace c38 := Bool.eq_false_iff.mpr c38
                        subst c38
                        have H1 : (some (([] : List (S29)), false)) = some (r1, r2) := by rw [if_neg (show ¬ (false = true) by decide)] at H; exact H
                        clear H
                        have H := H1
                        clear H1
                        simp only [Option.some.injEq, Prod.mk.injEq] at H
                        obtain ⟨rfl, rfl⟩ := H
                        have p326 : 0 ≤ (x22_2 : Int) := of_decide_eq_true (by first | (with_reducible assumption) | assumption)
                        have q326 : x22_2 < (l1.length : Int) := of_decide_eq_true (by first | (with_reducible assumption) | assumption)
                        obtain ⟨ad326, e326, hx326_0, hx326_1, hx326_2, hx326_3⟩ := at_T75 HR1.out x22_2 p326 q326
                        cases e326
                        replace hx326_0 := hcx HB hx326_0
                        replace hx326_1 := hcx HB hx326_1
                        replace hx326_2 := hcx HB hx326_2
                        replace hx326_3 := hcx HB hx326_3
                        replace p326 := eq_true p326
                        replace q326 := eq_true q326
                        try go_wp2_with (first | ((with_reducible refine gate_dst (N := 8) rfl ?_); refine bxe (N := 8) (cs := #[.int .i64 0, .string (⟨#[]⟩ : ByteArray), .int .i64 0, .int .i64 0]) (t := 75) ?_; intro gb327 hg w47 hbox hb; have n0_ := Aside0.mk (Kd.R_below (kr HO_6.out) hb); have n1_ := an0 HB hb; have n2_ := Aside0.mk (hbox); have n3_ := an2 HB hg; have n4_ := an2 HB hg; clear HO_6; clear HB; have HO_6 := n0_; have HB := n1_; have BK327 := n2_; have GW327 := n3_; have GE327 := n4_; clear n0_ n1_ n2_ n3_ n4_; clear hb hbox hg; obtain ⟨hcz48_0, hcz48_1, hcz48_2, hcz48_3, hfz48_0, hfz48_1, hfz48_2, hfz48_3⟩ := cl4 BK327))
                        have n0_ : Aside0 (Kd.R k29 29 ((((w47.setCell ⟨gb327, 0, none⟩ (.int .i64 ((rd_T75 l1 x22_2).f0))).setCell ⟨gb327, 1, none⟩ (.string ((rd_T75 l1 x22_2).f1))).setCell ⟨gb327, 2, none⟩ (.int .i64 ((rd_T75 l1 x22_2).f2))).setCell ⟨gb327, 3, none⟩ (.int .i64 ((rd_T75 l1 x22_2).f3))) w.heap.size (fun _ => True) u6 x6_2) := ⟨by (with_reducible repeat (first | apply Kd.R_alloc | apply Kd.R_drewN | apply Kd.R_drew)); exact Kd.R_mono (Kd.R_far (p := ⟨gb327, 3, none⟩) (Kd.R_far (p := ⟨gb327, 2, none⟩) (Kd.R_far (p := ⟨gb327, 1, none⟩) (Kd.R_far (p := ⟨gb327, 0, none⟩) (Kd.R_types HO_6.out BK327.out (by decide)) (fun _ hk => hk.2) (.int .i64 ((rd_T75 l1 x22_2).f0))) (fun _ hk => hk.2) (.string ((rd_T75 l1 x22_2).f1))) (fun _ hk => hk.2) (.int .i64 ((rd_T75 l1 x22_2).f2))) (fun _ hk => hk.2) (.int .i64 ((rd_T75 l1 x22_2).f3))) (fun _ hk => trivial)⟩
                        have n1_ : Aside0 (((((w47.setCell ⟨gb327, 0, none⟩ (.int .i64 ((rd_T75 l1 x22_2).f0))).setCell ⟨gb327, 1, none⟩ (.string ((rd_T75 l1 x22_2).f1))).setCell ⟨gb327, 2, none⟩ (.int .i64 ((rd_T75 l1 x22_2).f2))).setCell ⟨gb327, 3, none⟩ (.int .i64 ((rd_T75 l1 x22_2).f3))).heap[gb327]? = some (.cells #[.int .i64 ((rd_T75 l1 x22_2).f0), .string ((rd_T75 l1 x22_2).f1), .int .i64 ((rd_T75 l1 x22_2).f2), .int .i64 ((rd_T75 l1 x22_2).f3)] 75 (0, 0))) := ⟨by (with_reducible repeat (first | refine blk_drewN ?_ _ | refine blk_drew ?_ | refine blk_alloc ?_ _)); refine blk_put (cs := #[.int .i64 ((rd_T75 l1 x22_2).f0), .string ((rd_T75 l1 x22_2).f1), .int .i64 ((rd_T75 l1 x22_2).f2), .int .i64 0]) ?_ 3 _ rfl; (with_reducible repeat (first | refine blk_drewN ?_ _ | refine blk_drew ?_ | refine blk_alloc ?_ _)); refine blk_put (cs := #[.int .i64 ((rd_T75 l1 x22_2).f0), .string ((rd_T75 l1 x22_2).f1), .int .i64 0, .int .i64 0]) ?_ 2 _ rfl; (with_reducible repeat (first | refine blk_drewN ?_ _ | refine blk_drew ?_ | refine blk_alloc ?_ _)); refine blk_put (cs := #[.int .i64 ((rd_T75 l1 x22_2).f0), .string (⟨#[]⟩ : ByteArray), .int .i64 0, .int .i64 0]) ?_ 1 _ rfl; (with_reducible repeat (first | refine blk_drewN ?_ _ | refine blk_drew ?_ | refine blk_alloc ?_ _)); refine blk_put (cs := #[.int .i64 0, .string (⟨#[]⟩ : ByteArray), .int .i64 0, .int .i64 0]) ?_ 0 _ rfl; (with_reducible repeat (first | refine blk_drewN ?_ _ | refine blk_drew ?_ | refine blk_alloc ?_ _)); exact BK327.out⟩
                        have n2_ : Aside0 (Below w.heap.size w ((((w47.setCell ⟨gb327, 0, none⟩ (.int .i64 ((rd_T75 l1 x22_2).f0))).setCell ⟨gb327, 1, none⟩ (.string ((rd_T75 l1 x22_2).f1))).setCell ⟨gb327, 2, none⟩ (.int .i64 ((rd_T75 l1 x22_2).f2))).setCell ⟨gb327, 3, none⟩ (.int .i64 ((rd_T75 l1 x22_2).f3)))) := ⟨bp HB.out⟩
                        (try clear HO_6)
                        (try clear BK327)
                        (try clear HB)
                        generalize ((((w47.setCell ⟨gb327, 0, none⟩ (.int .i64 ((rd_T75 l1 x22_2).f0))).setCell ⟨gb327, 1, none⟩ (.string ((rd_T75 l1 x22_2).f1))).setCell ⟨gb327, 2, none⟩ (.int .i64 ((rd_T75 l1 x22_2).f2))).setCell ⟨gb327, 3, none⟩ (.int .i64 ((rd_T75 l1 x22_2).f3))) = w49 at n0_ n1_ n2_ ⊢
                        have HO_6 := n0_
                        have BK327 := n1_
                        have HB := n2_
                        clear n0_ n1_ n2_
                        have n0_ := Aside0.mk (Kd.R_drew HO_6.out)
                        have n1_ := Aside0.mk (blk_drew BK327.out)
                        have n2_ := Aside0.mk (below_drew1 HB.out)
                        clear HO_6
                        clear BK327
                        clear HB
                        have HO_6 := n0_
                        have BK327 := n1_
                        have HB := n2_
                        clear n0_ n1_ n2_
                        obtain ⟨Ao51, co51, eo51⟩ := Kd.R_slice HO_6.out
                        (first | subst eo51 | (injection eo51 with f1_ f2_ f3_; have f4_ := f1_.symm; have f5_ := f3_.symm; clear f1_ f2_ f3_; subst f4_; subst f5_))
                        refine start_ (n := 7) (S := fun w' => w'.cell? ⟨gb327, 0, none⟩ = some (.int .i64 ((rd_T75 l1 x22_2).f0)) ∧ w'.cell? ⟨gb327, 1, none⟩ = some (.string ((rd_T75 l1 x22_2).f1)) ∧ w'.cell? ⟨gb327, 2, none⟩ = some (.int .i64 ((rd_T75 l1 x22_2).f2)) ∧ w'.cell? ⟨gb327, 3, none⟩ = some (.int .i64 ((rd_T75 l1 x22_2).f3))) (ds := []) #[false, false, false, false, false, false, false] (by kernel_rfl) rfl rfl ⟨(blk_cell BK327.out 0).trans rfl, (blk_cell BK327.out 1).trans rfl, (blk_cell BK327.out 2).trans rfl, (blk_cell BK327.out 3).trans rfl⟩ (fun hHeld => ?_)
                        generalize w49.drew = w50 at HO_6 BK327 HB hHeld ⊢
                        refine pure_ (i := 0) (N := some 26) (v := ?_) (a' := ?_) #[true, false, false, false, false, false, false] rfl rfl (by kernel_rfl) (fun _ _ _ h => h) (Or.inl ⟨by rfl, ?_⟩) ?_ ?_
                        rotate_left; focus (intro w'; go_simp; with_reducible rfl)
                        rotate_left; focus (simp only [Act.put, List.setIfInBounds_toArray, List.set_cons_zero, List.set_cons_succ, i64_w, i32_w]; rfl)
                        refine pure_ (i := 1) (N := some 27) (v := ?_) (a' := ?_) #[true, true, false, false, false, false, false] rfl rfl (by kernel_rfl) (fun _ _ _ h => h) (Or.inl ⟨by rfl, ?_⟩) ?_ ?_
                        rotate_left; focus (intro w'; go_simp; with_reducible rfl)
                        rotate_left; focus (simp only [Act.put, List.setIfInBounds_toArray, List.set_cons_zero, List.set_cons_succ, i64_w, i32_w]; rfl)
                        refine pure_ (i := 4) (N := some 30) (v := ?_) (a' := ?_) #[true, true, false, false, true, false, false] rfl rfl (by kernel_rfl) (fun _ _ _ h => h) (Or.inl ⟨by rfl, ?_⟩) ?_ ?_
                        rotate_left; focus (intro w'; go_simp; with_reducible rfl)
                        rotate_left; focus (simp only [Act.put, List.setIfInBounds_toArray, List.set_cons_zero, List.set_cons_succ, i64_w, i32_w]; rfl)
                        refine take_ (i := 2) (N := some 28) (v := ?_) (a' := ?_) #[true, true, true, false, true, false, false] rfl rfl (by kernel_rfl) (fun _ _ _ h => h) (Or.inl ⟨by rfl, ?_⟩) hHeld ?_ ?_
                        rotate_left
                        · rintro w' ⟨s0, s1, s2, s3⟩
                          go_simp
                          with_reducible rfl
                        rotate_left; focus (simp only [Act.put, List.setIfInBounds_toArray, List.set_cons_zero, List.set_cons_succ, i64_w, i32_w]; rfl)
                        refine take_ (i := 5) (N := some 31) (v := ?_) (a' := ?_) #[true, true, true, false, true, true, false] rfl rfl (by kernel_rfl) (fun _ _ _ h => h) (Or.inl ⟨by rfl, ?_⟩) hHeld ?_ ?_
                        rotate_left
                        · rintro w' ⟨s0, s1, s2, s3⟩
                          go_simp
                          with_reducible rfl
                        rotate_left; focus (simp only [Act.put, List.setIfInBounds_toArray, List.set_cons_zero, List.set_cons_succ, i64_w, i32_w]; rfl)
                        refine one_ (i := 3) (N := some 29) #[true, true, true, true, true, true, false] rfl rfl (by kernel_rfl) (by decide) (fun K hK => ?_)
                        refine goes_ Try.func97 (by kernel_rfl) rfl #[.slice Ao51 x6_2.length co51, .string ((rd_T75 l1 x22_2).f1)] (by rfl) rfl rfl (by (try simp only [List.map_toArray, List.map_cons, List.map_nil]); first | done | rfl | (simp only [List.length_drop, List.length_take]; rfl)) ?_
                        with_reducible refine (impl_PairGet.calls k2 _ _ x6_2 ((rd_T75 l1 x22_2).f1) t328 _ ?side1 ?side2 A16.out).mono ?_
                        (case side1 => exact impl_ApplyFeed.s0 HO_6.out)
                        (case side2 => exact (Kd.R_reads' HO_6.out).2.1)
                        rintro e w52 ⟨rfl, hb⟩
                        refine ⟨_, rfl, ?_⟩
                        have n0_ := Aside0.mk (Kd.R_below (kr HO_6.out) hb)
                        have n1_ := an1 BK327 hb
                        have n2_ := an0 HB hb
                        clear HO_6
                        clear BK327
                        clear HB
                        have HO_6 := n0_
                        have BK327 := n1_
                        have HB := n2_
                        clear n0_ n1_ n2_
                        (try clear hb)
                        (try clear hb2)
                        (try clear hk)
                        (try clear hi)
                        refine hK.out _ _ ⟨(blk_cell BK327.out 0).trans rfl, (blk_cell BK327.out 1).trans rfl, (blk_cell BK327.out 2).trans rfl, (blk_cell BK327.out 3).trans rfl⟩ (fun hHeld => ?_)
                        clear hK K
                        refine norm_ (a' := ?_) ?_ ?_
                        rotate_left
                        · show Act.put _ (some 29) _ = _
                          simp only [Act.put, List.setIfInBounds_toArray, List.set_cons_zero, List.set_cons_succ, i64_w, i32_w]
                          rfl
                        refine pure_ (i := 6) (N := some 32) (v := ?_) (a' := ?_) #[true, true, true, true, true, true, true] rfl rfl (by kernel_rfl) (fun _ _ _ h => h) (Or.inl ⟨by rfl, ?_⟩) ?_ ?_
                        rotate_left; focus (intro w'; go_simp; with_reducible rfl)
                        rotate_left; focus (simp only [Act.put, List.setIfInBounds_toArray, List.set_cons_zero, List.set_cons_succ, i64_w, i32_w]; rfl)
                        refine done_ (by kernel_rfl) ?_
                        obtain ⟨hcz53_0, hcz53_1, hcz53_2, hcz53_3, hfz53_0, hfz53_1, hfz53_2, hfz53_3⟩ := cl4 BK327
                        try go_wp2_with (first | ((with_reducible refine gate_callee (f := 99) rfl ?_); refine gsl (some 49) rfl Try.func99 #[.slice Ao51 x6_2.length co51, .string ((rd_T75 l1 x22_2).f1), .int .i64 ((rd_T75 l1 x22_2).f3)] rfl ?_; (with_reducible refine (impl_PairPut.calls k2 _ _ x6_2 ((rd_T75 l1 x22_2).f1) ((rd_T75 l1 x22_2).f3) t333 false _ ?side1 ?side2 A37.out).mono ?_); (case side1 => exact impl_ApplyFeed.s0 HO_6.out); (case side2 => exact (Kd.R_reads' HO_6.out).2.1); rintro e w54 ⟨v335, rfl, ho0, hb⟩; refine ⟨_, rfl, ?_⟩; have n0_ := Aside0.mk (Kd.R_elder' (kr HO_6.out) (Kd.R_base ho0) hb); have n1_ := Aside0.mk (Kd.R_lower (Kd.R_new' ho0 (Kd.R_lt (kr HO_6.out))) (below_size (bp HB.out))); have n2_ := an1 BK327 hb; have n3_ := an0 HB hb; clear HO_6; clear BK327; clear HB; have HO_6 := n0_; have HO336 := n1_; have BK327 := n2_; have HB := n3_; clear n0_ n1_ n2_ n3_; (try clear hb); (try clear hb2); (try clear hk); (try clear hi); (try clear ho0)))
                        go_ret2
                        exact ⟨_, fe, by first | exact Kd.R_nil _ _ _ _ _ | exact Kd.N_nil _ _ _ _ _ | exact Kd.V_nil _ _ _ _ _ | exact Kd.Q_nil _ _ _ _ _ | exact Kd.S_nil _ _ _ _ _, bp HB.out⟩
                  · rw [if_neg c17] at H
                    have c17b0 : (t328 == ((rd_T75 l1 x22_2).f2)) = false := beq_eq_false_iff_ne.mpr c17
                    have c17b1 : (t328 != ((rd_T75 l1 x22_2).f2)) = true := bne_iff_ne.mpr c17
                    simp only [Option.some.injEq, Prod.mk.injEq] at H
                    obtain ⟨rfl, rfl⟩ := H
                    have p326 : 0 ≤ (x22_2 : Int) := of_decide_eq_true (by first | (with_reducible assumption) | assumption)
                    have q326 : x22_2 < (l1.length : Int) := of_decide_eq_true (by first | (with_reducible assumption) | assumption)
                    obtain ⟨ad326, e326, hx326_0, hx326_1, hx326_2, hx326_3⟩ := at_T75 HR1.out x22_2 p326 q326
                    cases e326
                    replace hx326_0 := hcx HB hx326_0
                    replace hx326_1 := hcx HB hx326_1
                    replace hx326_2 := hcx HB hx326_2
                    replace hx326_3 := hcx HB hx326_3
                    replace p326 := eq_true p326
                    replace q326 := eq_true q326
                    try go_wp2_with (first | ((with_reducible refine gate_dst (N := 8) rfl ?_); refine bxe (N := 8) (cs := #[.int .i64 0, .string (⟨#[]⟩ : ByteArray), .int .i64 0, .int .i64 0]) (t := 75) ?_; intro gb327 hg w55 hbox hb; have n0_ := Aside0.mk (Kd.R_below (kr HO_6.out) hb); have n1_ := an0 HB hb; have n2_ := Aside0.mk (hbox); have n3_ := an2 HB hg; have n4_ := an2 HB hg; clear HO_6; clear HB; have HO_6 := n0_; have HB := n1_; have BK327 := n2_; have GW327 := n3_; have GE327 := n4_; clear n0_ n1_ n2_ n3_ n4_; clear hb hbox hg; obtain ⟨hcz56_0, hcz56_1, hcz56_2, hcz56_3, hfz56_0, hfz56_1, hfz56_2, hfz56_3⟩ := cl4 BK327))
                    have n0_ : Aside0 (Kd.R k29 29 ((((w55.setCell ⟨gb327, 0, none⟩ (.int .i64 ((rd_T75 l1 x22_2).f0))).setCell ⟨gb327, 1, none⟩ (.string ((rd_T75 l1 x22_2).f1))).setCell ⟨gb327, 2, none⟩ (.int .i64 ((rd_T75 l1 x22_2).f2))).setCell ⟨gb327, 3, none⟩ (.int .i64 ((rd_T75 l1 x22_2).f3))) w.heap.size (fun _ => True) u6 x6_2) := ⟨by (with_reducible repeat (first | apply Kd.R_alloc | apply Kd.R_drewN | apply Kd.R_drew)); exact Kd.R_mono (Kd.R_far (p := ⟨gb327, 3, none⟩) (Kd.R_far (p := ⟨gb327, 2, none⟩) (Kd.R_far (p := ⟨gb327, 1, none⟩) (Kd.R_far (p := ⟨gb327, 0, none⟩) (Kd.R_types HO_6.out BK327.out (by decide)) (fun _ hk => hk.2) (.int .i64 ((rd_T75 l1 x22_2).f0))) (fun _ hk => hk.2) (.string ((rd_T75 l1 x22_2).f1))) (fun _ hk => hk.2) (.int .i64 ((rd_T75 l1 x22_2).f2))) (fun _ hk => hk.2) (.int .i64 ((rd_T75 l1 x22_2).f3))) (fun _ hk => trivial)⟩
                    have n1_ : Aside0 (((((w55.setCell ⟨gb327, 0, none⟩ (.int .i64 ((rd_T75 l1 x22_2).f0))).setCell ⟨gb327, 1, none⟩ (.string ((rd_T75 l1 x22_2).f1))).setCell ⟨gb327, 2, none⟩ (.int .i64 ((rd_T75 l1 x22_2).f2))).setCell ⟨gb327, 3, none⟩ (.int .i64 ((rd_T75 l1 x22_2).f3))).heap[gb327]? = some (.cells #[.int .i64 ((rd_T75 l1 x22_2).f0), .string ((rd_T75 l1 x22_2).f1), .int .i64 ((rd_T75 l1 x22_2).f2), .int .i64 ((rd_T75 l1 x22_2).f3)] 75 (0, 0))) := ⟨by (with_reducible repeat (first | refine blk_drewN ?_ _ | refine blk_drew ?_ | refine blk_alloc ?_ _)); refine blk_put (cs := #[.int .i64 ((rd_T75 l1 x22_2).f0), .string ((rd_T75 l1 x22_2).f1), .int .i64 ((rd_T75 l1 x22_2).f2), .int .i64 0]) ?_ 3 _ rfl; (with_reducible repeat (first | refine blk_drewN ?_ _ | refine blk_drew ?_ | refine blk_alloc ?_ _)); refine blk_put (cs := #[.int .i64 ((rd_T75 l1 x22_2).f0), .string ((rd_T75 l1 x22_2).f1), .int .i64 0, .int .i64 0]) ?_ 2 _ rfl; (with_reducible repeat (first | refine blk_drewN ?_ _ | refine blk_drew ?_ | refine blk_alloc ?_ _)); refine blk_put (cs := #[.int .i64 ((rd_T75 l1 x22_2).f0), .string (⟨#[]⟩ : ByteArray), .int .i64 0, .int .i64 0]) ?_ 1 _ rfl; (with_reducible repeat (first | refine blk_drewN ?_ _ | refine blk_drew ?_ | refine blk_alloc ?_ _)); refine blk_put (cs := #[.int .i64 0, .string (⟨#[]⟩ : ByteArray), .int .i64 0, .int .i64 0]) ?_ 0 _ rfl; (with_reducible repeat (first | refine blk_drewN ?_ _ | refine blk_drew ?_ | refine blk_alloc ?_ _)); exact BK327.out⟩
                    have n2_ : Aside0 (Below w.heap.size w ((((w55.setCell ⟨gb327, 0, none⟩ (.int .i64 ((rd_T75 l1 x22_2).f0))).setCell ⟨gb327, 1, none⟩ (.string ((rd_T75 l1 x22_2).f1))).setCell ⟨gb327, 2, none⟩ (.int .i64 ((rd_T75 l1 x22_2).f2))).setCell ⟨gb327, 3, none⟩ (.int .i64 ((rd_T75 l1 x22_2).f3)))) := ⟨bp HB.out⟩
                    (try clear HO_6)
                    (try clear BK327)
                    (try clear HB)
                    generalize ((((w55.setCell ⟨gb327, 0, none⟩ (.int .i64 ((rd_T75 l1 x22_2).f0))).setCell ⟨gb327, 1, none⟩ (.string ((rd_T75 l1 x22_2).f1))).setCell ⟨gb327, 2, none⟩ (.int .i64 ((rd_T75 l1 x22_2).f2))).setCell ⟨gb327, 3, none⟩ (.int .i64 ((rd_T75 l1 x22_2).f3))) = w57 at n0_ n1_ n2_ ⊢
                    have HO_6 := n0_
                    have BK327 := n1_
                    have HB := n2_
                    clear n0_ n1_ n2_
                    have n0_ := Aside0.mk (Kd.R_drew HO_6.out)
                    have n1_ := Aside0.mk (blk_drew BK327.out)
                    have n2_ := Aside0.mk (below_drew1 HB.out)
                    clear HO_6
                    clear BK327
                    clear HB
                    have HO_6 := n0_
                    have BK327 := n1_
                    have HB := n2_
                    clear n0_ n1_ n2_
                    obtain ⟨Ao59, co59, eo59⟩ := Kd.R_slice HO_6.out
                    (first | subst eo59 | (injection eo59 with f1_ f2_ f3_; have f4_ := f1_.symm; have f5_ := f3_.symm; clear f1_ f2_ f3_; subst f4_; subst f5_))
                    refine start_ (n := 7) (S := fun w' => w'.cell? ⟨gb327, 0, none⟩ = some (.int .i64 ((rd_T75 l1 x22_2).f0)) ∧ w'.cell? ⟨gb327, 1, none⟩ = some (.string ((rd_T75 l1 x22_2).f1)) ∧ w'.cell? ⟨gb327, 2, none⟩ = some (.int .i64 ((rd_T75 l1 x22_2).f2)) ∧ w'.cell? ⟨gb327, 3, none⟩ = some (.int .i64 ((rd_T75 l1 x22_2).f3))) (ds := []) #[false, false, false, false, false, false, false] (by kernel_rfl) rfl rfl ⟨(blk_cell BK327.out 0).trans rfl, (blk_cell BK327.out 1).trans rfl, (blk_cell BK327.out 2).trans rfl, (blk_cell BK327.out 3).trans rfl⟩ (fun hHeld => ?_)
                    generalize w57.drew = w58 at HO_6 BK327 HB hHeld ⊢
                    refine pure_ (i := 0) (N := some 26) (v := ?_) (a' := ?_) #[true, false, false, false, false, false, false] rfl rfl (by kernel_rfl) (fun _ _ _ h => h) (Or.inl ⟨by rfl, ?_⟩) ?_ ?_
                    rotate_left; focus (intro w'; go_simp; with_reducible rfl)
                    rotate_left; focus (simp only [Act.put, List.setIfInBounds_toArray, List.set_cons_zero, List.set_cons_succ, i64_w, i32_w]; rfl)
                    refine pure_ (i := 1) (N := some 27) (v := ?_) (a' := ?_) #[true, true, false, false, false, false, false] rfl rfl (by kernel_rfl) (fun _ _ _ h => h) (Or.inl ⟨by rfl, ?_⟩) ?_ ?_
                    rotate_left; focus (intro w'; go_simp; with_reducible rfl)
                    rotate_left; focus (simp only [Act.put, List.setIfInBounds_toArray, List.set_cons_zero, List.set_cons_succ, i64_w, i32_w]; rfl)
                    refine pure_ (i := 4) (N := some 30) (v := ?_) (a' := ?_) #[true, true, false, false, true, false, false] rfl rfl (by kernel_rfl) (fun _ _ _ h => h) (Or.inl ⟨by rfl, ?_⟩) ?_ ?_
                    rotate_left; focus (intro w'; go_simp; with_reducible rfl)
                    rotate_left; focus (simp only [Act.put, List.setIfInBounds_toArray, List.set_cons_zero, List.set_cons_succ, i64_w, i32_w]; rfl)
                    refine take_ (i := 2) (N := some 28) (v := ?_) (a' := ?_) #[true, true, true, false, true, false, false] rfl rfl (by kernel_rfl) (fun _ _ _ h => h) (Or.inl ⟨by rfl, ?_⟩) hHeld ?_ ?_
                    rotate_left
                    · rintro w' ⟨s0, s1, s2, s3⟩
                      go_simp
                      with_reducible rfl
                    rotate_left; focus (simp only [Act.put, List.setIfInBounds_toArray, List.set_cons_zero, List.set_cons_succ, i64_w, i32_w]; rfl)
                    refine take_ (i := 5) (N := some 31) (v := ?_) (a' := ?_) #[true, true, true, false, true, true, false] rfl rfl (by kernel_rfl) (fun _ _ _ h => h) (Or.inl ⟨by rfl, ?_⟩) hHeld ?_ ?_
                    rotate_left
                    · rintro w' ⟨s0, s1, s2, s3⟩
                      go_simp
                      with_reducible rfl
                    rotate_left; focus (simp only [Act.put, List.setIfInBounds_toArray, List.set_cons_zero, List.set_cons_succ, i64_w, i32_w]; rfl)
                    refine one_ (i := 3) (N := some 29) #[true, true, true, true, true, true, false] rfl rfl (by kernel_rfl) (by decide) (fun K hK => ?_)
                    refine goes_ Try.func97 (by kernel_rfl) rfl #[.slice Ao59 x6_2.length co59, .string ((rd_T75 l1 x22_2).f1)] (by rfl) rfl rfl (by (try simp only [List.map_toArray, List.map_cons, List.map_nil]); first | done | rfl | (simp only [List.length_drop, List.length_take]; rfl)) ?_
                    with_reducible refine (impl_PairGet.calls k2 _ _ x6_2 ((rd_T75 l1 x22_2).f1) t328 _ ?side1 ?side2 A16.out).mono ?_
                    (case side1 => exact impl_ApplyFeed.s0 HO_6.out)
                    (case side2 => exact (Kd.R_reads' HO_6.out).2.1)
                    rintro e w60 ⟨rfl, hb⟩
                    refine ⟨_, rfl, ?_⟩
                    have n0_ := Aside0.mk (Kd.R_below (kr HO_6.out) hb)
                    have n1_ := an1 BK327 hb
                    have n2_ := an0 HB hb
                    clear HO_6
                    clear BK327
                    clear HB
                    have HO_6 := n0_
                    have BK327 := n1_
                    have HB := n2_
                    clear n0_ n1_ n2_
                    (try clear hb)
                    (try clear hb2)
                    (try clear hk)
                    (try clear hi)
                    refine hK.out _ _ ⟨(blk_cell BK327.out 0).trans rfl, (blk_cell BK327.out 1).trans rfl, (blk_cell BK327.out 2).trans rfl, (blk_cell BK327.out 3).trans rfl⟩ (fun hHeld => ?_)
                    clear hK K
                    refine norm_ (a' := ?_) ?_ ?_
                    rotate_left
                    · show Act.put _ (some 29) _ = _
                      simp only [Act.put, List.setIfInBounds_toArray, List.set_cons_zero, List.set_cons_succ, i64_w, i32_w]
                      rfl
                    refine pure_ (i := 6) (N := some 32) (v := ?_) (a' := ?_) #[true, true, true, true, true, true, true] rfl rfl (by kernel_rfl) (fun _ _ _ h => h) (Or.inl ⟨by rfl, ?_⟩) ?_ ?_
                    rotate_left; focus (intro w'; go_simp; with_reducible rfl)
                    rotate_left; focus (simp only [Act.put, List.setIfInBounds_toArray, List.set_cons_zero, List.set_cons_succ, i64_w, i32_w]; rfl)
                    refine done_ (by kernel_rfl) ?_
                    try go_wp2
                    go_ret2
                    exact ⟨_, fe, by first | exact Kd.R_nil _ _ _ _ _ | exact Kd.N_nil _ _ _ _ _ | exact Kd.V_nil _ _ _ _ _ | exact Kd.Q_nil _ _ _ _ _ | exact Kd.S_nil _ _ _ _ _, bp HB.out⟩
                · rw [if_neg c15] at H
                  exact absurd H (by simp)
              · rw [if_neg c14] at H
                exact absurd H (by simp)
            · rw [if_neg c13] at H
              have c13b0 : decide (x22_2 < (l1.length : Int)) = false := decide_eq_false c13
              clear c13
              simp only [Option.some.injEq, Prod.mk.injEq] at H
              obtain ⟨rfl, rfl⟩ := H
              go_wp2
              go_ret2
              exact ⟨_, fe, by (with_reducible repeat (first | apply Kd.R_alloc | apply Kd.R_drewN | apply Kd.R_drew)); exact HO_6.out, bp HB.out⟩

/-! ### laws_eqPair: function 100 -/
def laws_eqPair.f (a0_0 : ByteArray) (a0_1 : Int) (a1_0 : ByteArray) (a1_1 : Int) : Option (Bool) := if a0_0.toList = a1_0.toList then (if a0_1 = a1_1 then (some true) else (some false)) else (some false)
set_option maxHeartbeats 8000000 in
set_option maxRecDepth 100000 in
theorem laws_eqPair.calls (a0_0 : ByteArray) (a0_1 : Int) (a1_0 : ByteArray) (a1_1 : Int) (r : Bool) (w : World) (h : laws_eqPair.f a0_0 a0_1 a1_0 a1_1 = some r) :
    Calls Try.prog 100 #[.agg #[.string a0_0, .int .i64 a0_1], .agg #[.string a1_0, .int .i64 a1_1]] w fun e w' => e = .returned (.bool r) ∧ Below w.heap.size w w' := by
  have hu29 := Try.underlying29
  have HB := Aside0.mk (Below.refl w.heap.size w)
  have H : (if a0_0.toList = a1_0.toList then (if a0_1 = a1_1 then (some true) else (some false)) else (some false)) = some r := h
  clear h
  by_cases c3 : a0_0.toList = a1_0.toList
  · rw [if_pos c3] at H
    have c3b0 : (a0_0.toList == a1_0.toList) = true := beq_iff_eq.mpr c3
    have c3b1 : (a0_0.toList != a1_0.toList) = false := bne_eq_false_iff_eq.mpr c3
    clear c3
    by_cases c4 : a0_1 = a1_1
    · rw [if_pos c4] at H
      have c4b0 : (a0_1 == a1_1) = true := beq_iff_eq.mpr c4
      have c4b1 : (a0_1 != a1_1) = false := bne_eq_false_iff_eq.mpr c4
      clear c4
      obtain rfl := Option.some.inj H
      go_enter Try.func100, Try.ntmps100
      go_wp2_with (first | ((with_reducible refine gate_dst (N := 2) rfl ?_); refine bxe (N := 2) (cs := #[.string a0_0, .int .i64 a0_1]) (t := 29) ?_; intro gb337 hg w5 hbox hb; have BK337 := Aside0.mk (hbox); have GW337 := an2 HB hg; have GE337 := an2 HB hg; replace HB := an0 HB hb; clear hb hbox hg) | ((with_reducible refine gate_dst (N := 3) rfl ?_); refine bxe (N := 3) (cs := #[.string a1_0, .int .i64 a1_1]) (t := 29) ?_; intro gb338 hg w6 hbox hb; have BK338 := Aside0.mk (hbox); have GW338 := an2 HB hg; have GE338 := an2 HB hg; have NB337_338 := an3 BK337 hg; have NB338_337 := an4 BK337 hg; replace BK337 := an1 BK337 hb; replace HB := an0 HB hb; clear hb hbox hg; have hnb7 := NB337_338.out; have hnc7 := NB338_337.out; obtain ⟨hcz8_0, hcz8_1, hfz8_0, hfz8_1⟩ := cl2 BK337; obtain ⟨hcz9_0, hcz9_1, hfz9_0, hfz9_1⟩ := cl2 BK338))
      go_ret
      exact ⟨fe, bp HB.out⟩
    · rw [if_neg c4] at H
      have c4b0 : (a0_1 == a1_1) = false := beq_eq_false_iff_ne.mpr c4
      have c4b1 : (a0_1 != a1_1) = true := bne_iff_ne.mpr c4
      obtain rfl := Option.some.inj H
      go_enter Try.func100, Try.ntmps100
      go_wp2_with (first | ((with_reducible refine gate_dst (N := 2) rfl ?_); refine bxe (N := 2) (cs := #[.string a0_0, .int .i64 a0_1]) (t := 29) ?_; intro gb337 hg w10 hbox hb; have BK337 := Aside0.mk (hbox); have GW337 := an2 HB hg; have GE337 := an2 HB hg; replace HB := an0 HB hb; clear hb hbox hg) | ((with_reducible refine gate_dst (N := 3) rfl ?_); refine bxe (N := 3) (cs := #[.string a1_0, .int .i64 a1_1]) (t := 29) ?_; intro gb338 hg w11 hbox hb; have BK338 := Aside0.mk (hbox); have GW338 := an2 HB hg; have GE338 := an2 HB hg; have NB337_338 := an3 BK337 hg; have NB338_337 := an4 BK337 hg; replace BK337 := an1 BK337 hb; replace HB := an0 HB hb; clear hb hbox hg; have hnb12 := NB337_338.out; have hnc12 := NB338_337.out; obtain ⟨hcz13_0, hcz13_1, hfz13_0, hfz13_1⟩ := cl2 BK337; obtain ⟨hcz14_0, hcz14_1, hfz14_0, hfz14_1⟩ := cl2 BK338))
      go_ret
      exact ⟨fe, bp HB.out⟩
  · rw [if_neg c3] at H
    have c3b0 : (a0_0.toList == a1_0.toList) = false := beq_eq_false_iff_ne.mpr c3
    have c3b1 : (a0_0.toList != a1_0.toList) = true := bne_iff_ne.mpr c3
    obtain rfl := Option.some.inj H
    go_enter Try.func100, Try.ntmps100
    go_wp2_with (first | ((with_reducible refine gate_dst (N := 2) rfl ?_); refine bxe (N := 2) (cs := #[.string a0_0, .int .i64 a0_1]) (t := 29) ?_; intro gb337 hg w15 hbox hb; have BK337 := Aside0.mk (hbox); have GW337 := an2 HB hg; have GE337 := an2 HB hg; replace HB := an0 HB hb; clear hb hbox hg) | ((with_reducible refine gate_dst (N := 3) rfl ?_); refine bxe (N := 3) (cs := #[.string a1_0, .int .i64 a1_1]) (t := 29) ?_; intro gb338 hg w16 hbox hb; have BK338 := Aside0.mk (hbox); have GW338 := an2 HB hg; have GE338 := an2 HB hg; have NB337_338 := an3 BK337 hg; have NB338_337 := an4 BK337 hg; replace BK337 := an1 BK337 hb; replace HB := an0 HB hb; clear hb hbox hg; have hnb17 := NB337_338.out; have hnc17 := NB338_337.out; obtain ⟨hcz18_0, hcz18_1, hfz18_0, hfz18_1⟩ := cl2 BK337; obtain ⟨hcz19_0, hcz19_1, hfz19_0, hfz19_1⟩ := cl2 BK338))
    go_ret
    exact ⟨fe, bp HB.out⟩

end Go.Proofs.Ytfeeifefmenlmaa.PFnExactApplyFeed
