-- Written by a program of this session, in the manner of the kit's print (wip/pp.py): functions and their contracts.
import Derived.Test.YtfeeifefmenlmaaPFnExactApplyFeedx0
import Derived.Test.YtfeeifefmenlmaaPFnExactApplyFeedx6
namespace Go.Proofs.Ytfeeifefmenlmaa.PFnExactApplyFeed
open Go.RowKit Go.Proofs.YtfeeifefmenlmaaW.PrintWords Go.Proofs.YtfeeifefmenlmaaW.PrintLast Go.Proofs.YtfeeifefmenlmaaW.PrintMore
attribute [local go_sem] binOp_leq_str binOp_gtr_str binOp_geq_str max2_int min2_int max_two min_two max_three min_three max_four min_four   -- for this text's walks alone
set_option linter.unusedVariables false
set_option linter.unusedSimpArgs false

/-! ### impl_FeedValid: function 51 -/
mutual
def impl_FeedValid.l0 : Nat → List (S75) → List (S75) → Int → Int → Option (Bool)
  | 0, _, _, _, _ => none
  | k + 1, x0, x8, x9, x10 => if x10 < x9 then (if 0 ≤ x10 then (if x10 < (x8.length : Int) then (if ((rd_T75 x8 x10).f0) < 0 then (impl_FeedValid.j1 k x0 x10 x8 x9 x10 true ((rd_T75 x8 x10).f0) ((rd_T75 x8 x10).f1) ((rd_T75 x8 x10).f2) ((rd_T75 x8 x10).f3)) else (if ((rd_T75 x8 x10).f0) ≥ 24 then (impl_FeedValid.j1 k x0 x10 x8 x9 x10 true ((rd_T75 x8 x10).f0) ((rd_T75 x8 x10).f1) ((rd_T75 x8 x10).f2) ((rd_T75 x8 x10).f3)) else ((impl_KeyValid.f k ((rd_T75 x8 x10).f1)).bind fun t250 => (if t250 = true then (impl_FeedValid.j1 k x0 x10 x8 x9 x10 (((rd_T75 x8 x10).f2) == ((rd_T75 x8 x10).f3)) ((rd_T75 x8 x10).f0) ((rd_T75 x8 x10).f1) ((rd_T75 x8 x10).f2) ((rd_T75 x8 x10).f3)) else (impl_FeedValid.j1 k x0 x10 x8 x9 x10 true ((rd_T75 x8 x10).f0) ((rd_T75 x8 x10).f1) ((rd_T75 x8 x10).f2) ((rd_T75 x8 x10).f3)))))) else (none)) else (none)) else (some true)
def impl_FeedValid.j1 : Nat → List (S75) → Int → List (S75) → Int → Int → Bool → Int → ByteArray → Int → Int → Option (Bool)
  | 0, _, _, _, _, _, _, _, _, _, _ => none
  | k + 1, x0, x3, x8, x9, x10, x35, x250000, x250001, x250002, x250003 => if x35 = true then (some false) else (if x250002 = (-1) then (if x250003 = (-1) then (impl_FeedValid.j2 k x0 x3 x8 x9 x10 false x250000 x250001 x250002 x250003) else ((impl_valueValid.f x250003).bind fun t251 => (impl_FeedValid.j2 k x0 x3 x8 x9 x10 (!t251) x250000 x250001 x250002 x250003))) else ((impl_valueValid.f x250002).bind fun t252 => (if t252 = true then (if x250003 = (-1) then (impl_FeedValid.j2 k x0 x3 x8 x9 x10 false x250000 x250001 x250002 x250003) else ((impl_valueValid.f x250003).bind fun t253 => (impl_FeedValid.j2 k x0 x3 x8 x9 x10 (!t253) x250000 x250001 x250002 x250003))) else (impl_FeedValid.j2 k x0 x3 x8 x9 x10 true x250000 x250001 x250002 x250003))))
def impl_FeedValid.j2 : Nat → List (S75) → Int → List (S75) → Int → Int → Bool → Int → ByteArray → Int → Int → Option (Bool)
  | 0, _, _, _, _, _, _, _, _, _, _ => none
  | k + 1, x0, x3, x8, x9, x10, x55, x250000, x250001, x250002, x250003 => if x55 = true then (some false) else (if x3 > 0 then (if 0 ≤ (wrap64 (x3 - 1)) then (if (wrap64 (x3 - 1)) < (x0.length : Int) then (if ((rd_T75 x0 (wrap64 (x3 - 1))).f0) ≥ x250000 then (some false) else (impl_FeedValid.l0 k x0 x8 x9 (wrap64 (x10 + 1)))) else (none)) else (none)) else (impl_FeedValid.l0 k x0 x8 x9 (wrap64 (x10 + 1))))
end
def impl_FeedValid.f (k : Nat) (l0 : List (S75)) : Option (Bool) := if (l0.length : Int) > 24 then (some false) else (impl_FeedValid.l0 k l0 l0 (l0.length : Int) 0)
theorem impl_FeedValid.mono_l : ∀ k, (∀ y0 y1 y2 y3, LeO (impl_FeedValid.l0 k y0 y1 y2 y3) (impl_FeedValid.l0 (k + 1) y0 y1 y2 y3)) ∧ (∀ y0 y1 y2 y3 y4 y5 y6 y7 y8 y9, LeO (impl_FeedValid.j1 k y0 y1 y2 y3 y4 y5 y6 y7 y8 y9) (impl_FeedValid.j1 (k + 1) y0 y1 y2 y3 y4 y5 y6 y7 y8 y9)) ∧ (∀ y0 y1 y2 y3 y4 y5 y6 y7 y8 y9, LeO (impl_FeedValid.j2 k y0 y1 y2 y3 y4 y5 y6 y7 y8 y9) (impl_FeedValid.j2 (k + 1) y0 y1 y2 y3 y4 y5 y6 y7 y8 y9))
  | 0 => ⟨fun _ _ _ _ r h => by simp [impl_FeedValid.l0] at h, fun _ _ _ _ _ _ _ _ _ _ r h => by simp [impl_FeedValid.j1] at h, fun _ _ _ _ _ _ _ _ _ _ r h => by simp [impl_FeedValid.j2] at h⟩
  | k + 1 => by
    obtain ⟨ih0, ih1, ih2⟩ := impl_FeedValid.mono_l k
    refine ⟨?_, ?_, ?_⟩
    · intro y0 y1 y2 y3
      unfold impl_FeedValid.l0
      repeat' first
      | (with_reducible exact ih0 _ _ _ _)
      | (with_reducible exact ih1 _ _ _ _ _ _ _ _ _ _)
      | (with_reducible exact ih2 _ _ _ _ _ _ _ _ _ _)
      | (with_reducible exact impl_KeyValid.mono _ _)
      | (with_reducible exact LeO.refl _)
      | (with_reducible exact LeO.none _)
      | (with_reducible refine LeO.ite ?_ ?_)
      | (with_reducible refine LeO.bind ?_ (fun _ => ?_))
      | exact ih0 _ _ _ _
      | exact ih1 _ _ _ _ _ _ _ _ _ _
      | exact ih2 _ _ _ _ _ _ _ _ _ _
      | exact impl_KeyValid.mono _ _
      | exact LeO.none _
      | refine LeO.ite ?_ ?_
      | refine LeO.bind ?_ (fun _ => ?_)
    · intro y0 y1 y2 y3 y4 y5 y6 y7 y8 y9
      unfold impl_FeedValid.j1
      repeat' first
      | (with_reducible exact ih0 _ _ _ _)
      | (with_reducible exact ih1 _ _ _ _ _ _ _ _ _ _)
      | (with_reducible exact ih2 _ _ _ _ _ _ _ _ _ _)
      | (with_reducible exact impl_KeyValid.mono _ _)
      | (with_reducible exact LeO.refl _)
      | (with_reducible exact LeO.none _)
      | (with_reducible refine LeO.ite ?_ ?_)
      | (with_reducible refine LeO.bind ?_ (fun _ => ?_))
      | exact ih0 _ _ _ _
      | exact ih1 _ _ _ _ _ _ _ _ _ _
      | exact ih2 _ _ _ _ _ _ _ _ _ _
      | exact impl_KeyValid.mono _ _
      | exact LeO.none _
      | refine LeO.ite ?_ ?_
      | refine LeO.bind ?_ (fun _ => ?_)
    · intro y0 y1 y2 y3 y4 y5 y6 y7 y8 y9
      unfold impl_FeedValid.j2
      repeat' first
      | (with_reducible exact ih0 _ _ _ _)
      | (with_reducible exact ih1 _ _ _ _ _ _ _ _ _ _)
      | (with_reducible exact ih2 _ _ _ _ _ _ _ _ _ _)
      | (with_reducible exact impl_KeyValid.mono _ _)
      | (with_reducible exact LeO.refl _)
      | (with_reducible exact LeO.none _)
      | (with_reducible refine LeO.ite ?_ ?_)
      | (with_reducible refine LeO.bind ?_ (fun _ => ?_))
      | exact ih0 _ _ _ _
      | exact ih1 _ _ _ _ _ _ _ _ _ _
      | exact ih2 _ _ _ _ _ _ _ _ _ _
      | exact impl_KeyValid.mono _ _
      | exact LeO.none _
      | refine LeO.ite ?_ ?_
      | refine LeO.bind ?_ (fun _ => ?_)
theorem impl_FeedValid.mono : ∀ a0 k, LeO (impl_FeedValid.f k a0) (impl_FeedValid.f (k + 1) a0) := by
  intro a0 k
  obtain ⟨ih0, ih1, ih2⟩ := impl_FeedValid.mono_l k
  unfold impl_FeedValid.f
  repeat' first
      | (with_reducible exact ih0 _ _ _ _)
      | (with_reducible exact ih1 _ _ _ _ _ _ _ _ _ _)
      | (with_reducible exact ih2 _ _ _ _ _ _ _ _ _ _)
      | (with_reducible exact impl_KeyValid.mono _ _)
      | (with_reducible exact LeO.refl _)
      | (with_reducible exact LeO.none _)
      | (with_reducible refine LeO.ite ?_ ?_)
      | (with_reducible refine LeO.bind ?_ (fun _ => ?_))
      | exact ih0 _ _ _ _
      | exact ih1 _ _ _ _ _ _ _ _ _ _
      | exact ih2 _ _ _ _ _ _ _ _ _ _
      | exact impl_KeyValid.mono _ _
      | exact LeO.none _
      | refine LeO.ite ?_ ?_
      | refine LeO.bind ?_ (fun _ => ?_)
set_option maxHeartbeats 8000000 in
set_option maxRecDepth 100000 in
theorem impl_FeedValid.calls (k : Nat) (A0 : Option Addr) (c0 : Nat) (l0 : List (S75)) (r : Bool) (w : World) (hr0 : Kd.C k75 w A0 l0.length l0) (hc0 : l0.length ≤ c0) (h : impl_FeedValid.f k l0 = some r) :
    Calls Try.prog 51 #[.slice A0 l0.length c0] w fun e w' => e = .returned (.bool r) ∧ Below w.heap.size w w' := by
  have hu75 := Try.underlying75
  have HR0 := Aside0.mk hr0
  have HC0 := Aside0.mk hc0
  clear hr0 hc0
  have HB := Aside0.mk (Below.refl w.heap.size w)
  have H : (if (l0.length : Int) > 24 then (some false) else (impl_FeedValid.l0 k l0 l0 (l0.length : Int) 0)) = some r := h
  clear h
  by_cases c2 : (l0.length : Int) > 24
  · rw [if_pos c2] at H
    have c2b0 : decide (24 < (l0.length : Int)) = true := decide_eq_true c2
    have c2b1 : decide (24 < l0.length) = true := decide_eq_true (by omega)
    clear c2
    obtain rfl := Option.some.inj H
    go_enter Try.func51, Try.ntmps51
    go_wp2
    repeat (go_quiet (fail); try go_wp2)
    go_ret
    exact ⟨fe, bp HB.out⟩
  · rw [if_neg c2] at H
    have c2b0 : decide (24 < (l0.length : Int)) = false := decide_eq_false c2
    have c2b1 : decide (24 < l0.length) = false := decide_eq_false (by omega)
    clear c2
    have H' := Aside0.mk H
    clear H
    go_enter Try.func51, Try.ntmps51
    go_wp2
    repeat (go_quiet (fail); try go_wp2)
    go_loopg [10] k (fun kq v10 w' => ∃ (x10_1 : Int), v10 = .int .i64 x10_1 ∧ Aside0 (impl_FeedValid.l0 kq l0 l0 (l0.length : Int) x10_1 = some r) ∧ Aside0 (kq ≤ k) ∧ Aside0 (Below w.heap.size w w'))
    case atStart => exact ⟨(0), (by first | rfl | (simp; done) | (simp [*]; done) | (simp [bne_nil_, beq_nil_]; done)), H', ⟨Nat.le_refl _⟩, ⟨bp HB.out⟩⟩
    case round =>
      clear H'
      try clear c2
      try clear c2b0
      try clear c2b1
      try clear p2
      obtain ⟨x10_1, rfl, HA, HK1, HB⟩ := hrel
      cases gk with
      | zero => exact absurd HA.out (by simp [impl_FeedValid.l0])
      | succ k1 =>
        have H := HA.out
        clear HA
        simp only [impl_FeedValid.l0] at H
        by_cases c3 : x10_1 < (l0.length : Int)
        · rw [if_pos c3] at H
          have c3b0 : decide (x10_1 < (l0.length : Int)) = true := decide_eq_true c3
          clear c3
          by_cases c4 : 0 ≤ x10_1
          · rw [if_pos c4] at H
            have c4b0 : decide (0 ≤ x10_1) = true := decide_eq_true c4
            clear c4
            by_cases c5 : x10_1 < (l0.length : Int)
            · rw [if_pos c5] at H
              have c5b0 : decide (x10_1 < (l0.length : Int)) = true := decide_eq_true c5
              clear c5
              have HC6 := Aside0.mk H
              clear H
              have p248 : 0 ≤ (x10_1 : Int) := of_decide_eq_true (by first | (with_reducible assumption) | assumption)
              have q248 : x10_1 < (l0.length : Int) := of_decide_eq_true (by first | (with_reducible assumption) | assumption)
              obtain ⟨ad248, e248, hx248_0, hx248_1, hx248_2, hx248_3⟩ := at_T75 HR0.out x10_1 p248 q248
              cases e248
              replace hx248_0 := hcx HB hx248_0
              replace hx248_1 := hcx HB hx248_1
              replace hx248_2 := hcx HB hx248_2
              replace hx248_3 := hcx HB hx248_3
              replace p248 := eq_true p248
              replace q248 := eq_true q248
              go_upto_region 6 with (first | ((with_reducible refine gate_dst (N := 4) rfl ?_); refine bxe (N := 4) (cs := #[.int .i64 0, .string (⟨#[]⟩ : ByteArray), .int .i64 0, .int .i64 0]) (t := 75) ?_; intro gb249 hg w7 hbox hb; have BK249 := Aside0.mk (hbox); have GW249 := an2 HB hg; have GE249 := an2 HB hg; replace HB := an0 HB hb; clear hb hbox hg; obtain ⟨hcz8_0, hcz8_1, hcz8_2, hcz8_3, hfz8_0, hfz8_1, hfz8_2, hfz8_3⟩ := cl4 BK249))
              repeat (go_quiet (first | ((with_reducible refine gate_dst (N := 4) rfl ?_); refine bxe (N := 4) (cs := #[.int .i64 0, .string (⟨#[]⟩ : ByteArray), .int .i64 0, .int .i64 0]) (t := 75) ?_; intro gb249 hg w7 hbox hb; have BK249 := Aside0.mk (hbox); have GW249 := an2 HB hg; have GE249 := an2 HB hg; replace HB := an0 HB hb; clear hb hbox hg; obtain ⟨hcz8_0, hcz8_1, hcz8_2, hcz8_3, hfz8_0, hfz8_1, hfz8_2, hfz8_3⟩ := cl4 BK249)); go_upto_region 6 with (first | ((with_reducible refine gate_dst (N := 4) rfl ?_); refine bxe (N := 4) (cs := #[.int .i64 0, .string (⟨#[]⟩ : ByteArray), .int .i64 0, .int .i64 0]) (t := 75) ?_; intro gb249 hg w7 hbox hb; have BK249 := Aside0.mk (hbox); have GW249 := an2 HB hg; have GE249 := an2 HB hg; replace HB := an0 HB hb; clear hb hbox hg; obtain ⟨hcz8_0, hcz8_1, hcz8_2, hcz8_3, hfz8_0, hfz8_1, hfz8_2, hfz8_3⟩ := cl4 BK249)))
              (try simp only [Act.put, List.setIfInBounds_toArray, List.set_cons_zero, List.set_cons_succ])
              go_cut [35] (fun v35 wc => ∃ (kq : Nat) (x35_5 : Bool), v35 = .bool x35_5 ∧ Aside0 (impl_FeedValid.j1 kq l0 x10_1 l0 (l0.length : Int) x10_1 x35_5 ((rd_T75 l0 x10_1).f0) ((rd_T75 l0 x10_1).f1) ((rd_T75 l0 x10_1).f2) ((rd_T75 l0 x10_1).f3) = some r) ∧ Aside0 (kq ≤ k1) ∧ Aside0 (wc.heap[gb249]? = some (.cells #[.int .i64 ((rd_T75 l0 x10_1).f0), .string ((rd_T75 l0 x10_1).f1), .int .i64 ((rd_T75 l0 x10_1).f2), .int .i64 ((rd_T75 l0 x10_1).f3)] 75 (0, 0))) ∧ Aside0 (Below w.heap.size w wc))
              case first =>
                have H := HC6.out
                clear HC6
                by_cases c9 : ((rd_T75 l0 x10_1).f0) < 0
                · rw [if_pos c9] at H
                  have c9b0 : decide (((rd_T75 l0 x10_1).f0) < 0) = true := decide_eq_true c9
                  clear c9
                  (first | rw [c9b0] | (simp only [i64_w, i32_w]; rw [c9b0]) | skip)
                  have H' := Aside0.mk H
                  clear H
                  obtain ⟨hcz10_0, hcz10_1, hcz10_2, hcz10_3, hfz10_0, hfz10_1, hfz10_2, hfz10_3⟩ := cl4 BK249
                  go_wp2
                  repeat (go_quiet (fail); try go_wp2)
                  go_meet
                  case rel => exact ⟨_, (true), (by first | rfl | (simp; done) | (simp [*]; done) | (simp [bne_nil_, beq_nil_]; done)), H', ⟨by have := HK1.out; first | omega | exact Nat.le_refl _⟩, ⟨by (with_reducible repeat (first | refine blk_drewN ?_ _ | refine blk_drew ?_ | refine blk_alloc ?_ _)); refine blk_put (cs := #[.int .i64 ((rd_T75 l0 x10_1).f0), .string ((rd_T75 l0 x10_1).f1), .int .i64 ((rd_T75 l0 x10_1).f2), .int .i64 0]) ?_ 3 _ rfl; (with_reducible repeat (first | refine blk_drewN ?_ _ | refine blk_drew ?_ | refine blk_alloc ?_ _)); refine blk_put (cs := #[.int .i64 ((rd_T75 l0 x10_1).f0), .string ((rd_T75 l0 x10_1).f1), .int .i64 0, .int .i64 0]) ?_ 2 _ rfl; (with_reducible repeat (first | refine blk_drewN ?_ _ | refine blk_drew ?_ | refine blk_alloc ?_ _)); refine blk_put (cs := #[.int .i64 ((rd_T75 l0 x10_1).f0), .string (⟨#[]⟩ : ByteArray), .int .i64 0, .int .i64 0]) ?_ 1 _ rfl; (with_reducible repeat (first | refine blk_drewN ?_ _ | refine blk_drew ?_ | refine blk_alloc ?_ _)); refine blk_put (cs := #[.int .i64 0, .string (⟨#[]⟩ : ByteArray), .int .i64 0, .int .i64 0]) ?_ 0 _ rfl; (with_reducible repeat (first | refine blk_drewN ?_ _ | refine blk_drew ?_ | refine blk_alloc ?_ _)); exact BK249.out⟩, ⟨bp HB.out⟩⟩
                · rw [if_neg c9] at H
                  have c9b0 : decide (((rd_T75 l0 x10_1).f0) < 0) = false := decide_eq_false c9
                  clear c9
                  (first | rw [c9b0] | (simp only [i64_w, i32_w]; rw [c9b0]) | skip)
                  by_cases c11 : ((rd_T75 l0 x10_1).f0) ≥ 24
                  · rw [if_pos c11] at H
                    have c11b0 : decide (24 ≤ ((rd_T75 l0 x10_1).f0)) = true := decide_eq_true c11
                    clear c11
                    have H' := Aside0.mk H
                    clear H
                    obtain ⟨hcz12_0, hcz12_1, hcz12_2, hcz12_3, hfz12_0, hfz12_1, hfz12_2, hfz12_3⟩ := cl4 BK249
                    go_wp2
                    repeat (go_quiet (fail); try go_wp2)
                    go_meet
                    case rel => exact ⟨_, (true), (by first | rfl | (simp; done) | (simp [*]; done) | (simp [bne_nil_, beq_nil_]; done)), H', ⟨by have := HK1.out; first | omega | exact Nat.le_refl _⟩, ⟨by (with_reducible repeat (first | refine blk_drewN ?_ _ | refine blk_drew ?_ | refine blk_alloc ?_ _)); refine blk_put (cs := #[.int .i64 ((rd_T75 l0 x10_1).f0), .string ((rd_T75 l0 x10_1).f1), .int .i64 ((rd_T75 l0 x10_1).f2), .int .i64 0]) ?_ 3 _ rfl; (with_reducible repeat (first | refine blk_drewN ?_ _ | refine blk_drew ?_ | refine blk_alloc ?_ _)); refine blk_put (cs := #[.int .i64 ((rd_T75 l0 x10_1).f0), .string ((rd_T75 l0 x10_1).f1), .int .i64 0, .int .i64 0]) ?_ 2 _ rfl; (with_reducible repeat (first | refine blk_drewN ?_ _ | refine blk_drew ?_ | refine blk_alloc ?_ _)); refine blk_put (cs := #[.int .i64 ((rd_T75 l0 x10_1).f0), .string (⟨#[]⟩ : ByteArray), .int .i64 0, .int .i64 0]) ?_ 1 _ rfl; (with_reducible repeat (first | refine blk_drewN ?_ _ | refine blk_drew ?_ | refine blk_alloc ?_ _)); refine blk_put (cs := #[.int .i64 0, .string (⟨#[]⟩ : ByteArray), .int .i64 0, .int .i64 0]) ?_ 0 _ rfl; (with_reducible repeat (first | refine blk_drewN ?_ _ | refine blk_drew ?_ | refine blk_alloc ?_ _)); exact BK249.out⟩, ⟨bp HB.out⟩⟩
                  · rw [if_neg c11] at H
                    have c11b0 : decide (24 ≤ ((rd_T75 l0 x10_1).f0)) = false := decide_eq_false c11
                    clear c11
                    replace H := Option.bind_eq_some_iff.mp H
                    obtain ⟨t250, A130, H⟩ := H
                    replace H : (if t250 = true then (impl_FeedValid.j1 k1 l0 x10_1 l0 (l0.length : Int) x10_1 (((rd_T75 l0 x10_1).f2) == ((rd_T75 l0 x10_1).f3)) ((rd_T75 l0 x10_1).f0) ((rd_T75 l0 x10_1).f1) ((rd_T75 l0 x10_1).f2) ((rd_T75 l0 x10_1).f3)) else (impl_FeedValid.j1 k1 l0 x10_1 l0 (l0.length : Int) x10_1 true ((rd_T75 l0 x10_1).f0) ((rd_T75 l0 x10_1).f1) ((rd_T75 l0 x10_1).f2) ((rd_T75 l0 x10_1).f3))) = some r := H
                    have A13 := Aside0.mk A130
                    clear A130
                    by_cases c14 : t250 = true
                    · subst c14
                      have H1 : (impl_FeedValid.j1 k1 l0 x10_1 l0 (l0.length : Int) x10_1 (((rd_T75 l0 x10_1).f2) == ((rd_T75 l0 x10_1).f3)) ((rd_T75 l0 x10_1).f0) ((rd_T75 l0 x10_1).f1) ((rd_T75 l0 x10_1).f2) ((rd_T75 l0 x10_1).f3)) = some r := by rw [if_pos rfl] at H; exact H
                      clear H
                      have H := H1
                      clear H1
                      have H' := Aside0.mk H
                      clear H
                      obtain ⟨hcz15_0, hcz15_1, hcz15_2, hcz15_3, hfz15_0, hfz15_1, hfz15_2, hfz15_3⟩ := cl4 BK249
                      go_wp2_with (first | (go_at_call 74; (with_reducible refine (impl_KeyValid.calls k1 ((rd_T75 l0 x10_1).f1) true _ A13.out).mono ?_); rintro e w' ⟨rfl, ⟨nd, rfl⟩⟩; (try first | exact ⟨rfl, _, World.drewN_drewN _ _ _⟩ | exact ⟨rfl, _, Eq.trans (World.drewN_drewN _ _ _) (congrArg (World.drewN _) (Nat.add_assoc _ _ _))⟩)))
                      repeat (go_quiet (first | (go_at_call 74; (with_reducible refine (impl_KeyValid.calls k1 ((rd_T75 l0 x10_1).f1) true _ A13.out).mono ?_); rintro e w' ⟨rfl, ⟨nd, rfl⟩⟩; (try first | exact ⟨rfl, _, World.drewN_drewN _ _ _⟩ | exact ⟨rfl, _, Eq.trans (World.drewN_drewN _ _ _) (congrArg (World.drewN _) (Nat.add_assoc _ _ _))⟩))); try go_wp2_with (first | (go_at_call 74; (with_reducible refine (impl_KeyValid.calls k1 ((rd_T75 l0 x10_1).f1) true _ A13.out).mono ?_); rintro e w' ⟨rfl, ⟨nd, rfl⟩⟩; (try first | exact ⟨rfl, _, World.drewN_drewN _ _ _⟩ | exact ⟨rfl, _, Eq.trans (World.drewN_drewN _ _ _) (congrArg (World.drewN _) (Nat.add_assoc _ _ _))⟩))))
                      go_meet
                      case rel => exact ⟨_, ((((rd_T75 l0 x10_1).f2) == ((rd_T75 l0 x10_1).f3))), (by first | rfl | (simp; done) | (simp [*]; done) | (simp [bne_nil_, beq_nil_]; done)), H', ⟨by have := HK1.out; first | omega | exact Nat.le_refl _⟩, ⟨by (with_reducible repeat (first | refine blk_drewN ?_ _ | refine blk_drew ?_ | refine blk_alloc ?_ _)); refine blk_put (cs := #[.int .i64 ((rd_T75 l0 x10_1).f0), .string ((rd_T75 l0 x10_1).f1), .int .i64 ((rd_T75 l0 x10_1).f2), .int .i64 0]) ?_ 3 _ rfl; (with_reducible repeat (first | refine blk_drewN ?_ _ | refine blk_drew ?_ | refine blk_alloc ?_ _)); refine blk_put (cs := #[.int .i64 ((rd_T75 l0 x10_1).f0), .string ((rd_T75 l0 x10_1).f1), .int .i64 0, .int .i64 0]) ?_ 2 _ rfl; (with_reducible repeat (first | refine blk_drewN ?_ _ | refine blk_drew ?_ | refine blk_alloc ?_ _)); refine blk_put (cs := #[.int .i64 ((rd_T75 l0 x10_1).f0), .string (⟨#[]⟩ : ByteArray), .int .i64 0, .int .i64 0]) ?_ 1 _ rfl; (with_reducible repeat (first | refine blk_drewN ?_ _ | refine blk_drew ?_ | refine blk_alloc ?_ _)); refine blk_put (cs := #[.int .i64 0, .string (⟨#[]⟩ : ByteArray), .int .i64 0, .int .i64 0]) ?_ 0 _ rfl; (with_reducible repeat (first | refine blk_drewN ?_ _ | refine blk_drew ?_ | refine blk_alloc ?_ _)); exact BK249.out⟩, ⟨bp HB.out⟩⟩
                    · replace c14 := Bool.eq_false_iff.mpr c14
                      subst c14
                      have H1 : (impl_FeedValid.j1 k1 l0 x10_1 l0 (l0.length : Int) x10_1 true ((rd_T75 l0 x10_1).f0) ((rd_T75 l0 x10_1).f1) ((rd_T75 l0 x10_1).f2) ((rd_T75 l0 x10_1).f3)) = some r := by rw [if_neg (show ¬ (false = true) by decide)] at H; exact H
                      clear H
                      have H := H1
                      clear H1
                      have H' := Aside0.mk H
                      clear H
                      obtain ⟨hcz16_0, hcz16_1, hcz16_2, hcz16_3, hfz16_0, hfz16_1, hfz16_2, hfz16_3⟩ := cl4 BK249
                      go_wp2_with (first | (go_at_call 74; (with_reducible refine (impl_KeyValid.calls k1 ((rd_T75 l0 x10_1).f1) false _ A13.out).mono ?_); rintro e w' ⟨rfl, ⟨nd, rfl⟩⟩; (try first | exact ⟨rfl, _, World.drewN_drewN _ _ _⟩ | exact ⟨rfl, _, Eq.trans (World.drewN_drewN _ _ _) (congrArg (World.drewN _) (Nat.add_assoc _ _ _))⟩)))
                      repeat (go_quiet (first | (go_at_call 74; (with_reducible refine (impl_KeyValid.calls k1 ((rd_T75 l0 x10_1).f1) false _ A13.out).mono ?_); rintro e w' ⟨rfl, ⟨nd, rfl⟩⟩; (try first | exact ⟨rfl, _, World.drewN_drewN _ _ _⟩ | exact ⟨rfl, _, Eq.trans (World.drewN_drewN _ _ _) (congrArg (World.drewN _) (Nat.add_assoc _ _ _))⟩))); try go_wp2_with (first | (go_at_call 74; (with_reducible refine (impl_KeyValid.calls k1 ((rd_T75 l0 x10_1).f1) false _ A13.out).mono ?_); rintro e w' ⟨rfl, ⟨nd, rfl⟩⟩; (try first | exact ⟨rfl, _, World.drewN_drewN _ _ _⟩ | exact ⟨rfl, _, Eq.trans (World.drewN_drewN _ _ _) (congrArg (World.drewN _) (Nat.add_assoc _ _ _))⟩))))
                      go_meet
                      case rel => exact ⟨_, (true), (by first | rfl | (simp; done) | (simp [*]; done) | (simp [bne_nil_, beq_nil_]; done)), H', ⟨by have := HK1.out; first | omega | exact Nat.le_refl _⟩, ⟨by (with_reducible repeat (first | refine blk_drewN ?_ _ | refine blk_drew ?_ | refine blk_alloc ?_ _)); refine blk_put (cs := #[.int .i64 ((rd_T75 l0 x10_1).f0), .string ((rd_T75 l0 x10_1).f1), .int .i64 ((rd_T75 l0 x10_1).f2), .int .i64 0]) ?_ 3 _ rfl; (with_reducible repeat (first | refine blk_drewN ?_ _ | refine blk_drew ?_ | refine blk_alloc ?_ _)); refine blk_put (cs := #[.int .i64 ((rd_T75 l0 x10_1).f0), .string ((rd_T75 l0 x10_1).f1), .int .i64 0, .int .i64 0]) ?_ 2 _ rfl; (with_reducible repeat (first | refine blk_drewN ?_ _ | refine blk_drew ?_ | refine blk_alloc ?_ _)); refine blk_put (cs := #[.int .i64 ((rd_T75 l0 x10_1).f0), .string (⟨#[]⟩ : ByteArray), .int .i64 0, .int .i64 0]) ?_ 1 _ rfl; (with_reducible repeat (first | refine blk_drewN ?_ _ | refine blk_drew ?_ | refine blk_alloc ?_ _)); refine blk_put (cs := #[.int .i64 0, .string (⟨#[]⟩ : ByteArray), .int .i64 0, .int .i64 0]) ?_ 0 _ rfl; (with_reducible repeat (first | refine blk_drewN ?_ _ | refine blk_drew ?_ | refine blk_alloc ?_ _)); exact BK249.out⟩, ⟨bp HB.out⟩⟩
              case rest =>
                clear HC6
                try clear c1
                try clear c2
                try clear c2b0
                try clear c2b1
                try clear p2
                try clear q2
                try clear hx2
                try clear c3
                try clear c3b0
                try clear c4
                try clear c4b0
                try clear c5
                try clear c5b0
                try clear p6
                try clear c9
                try clear c9b0
                try clear c11
                try clear c11b0
                try clear c14
                try clear hcz10_0
                try clear hcz10_1
                try clear hcz10_2
                try clear hcz10_3
                try clear hcz12_0
                try clear hcz12_1
                try clear hcz12_2
                try clear hcz12_3
                try clear hcz15_0
                try clear hcz15_1
                try clear hcz15_2
                try clear hcz15_3
                try clear hcz16_0
                try clear hcz16_1
                try clear hcz16_2
                try clear hcz16_3
                try clear hcz8_0
                try clear hcz8_1
                try clear hcz8_2
                try clear hcz8_3
                try clear hfz10_0
                try clear hfz10_1
                try clear hfz10_2
                try clear hfz10_3
                try clear hfz12_0
                try clear hfz12_1
                try clear hfz12_2
                try clear hfz12_3
                try clear hfz15_0
                try clear hfz15_1
                try clear hfz15_2
                try clear hfz15_3
                try clear hfz16_0
                try clear hfz16_1
                try clear hfz16_2
                try clear hfz16_3
                try clear hfz8_0
                try clear hfz8_1
                try clear hfz8_2
                try clear hfz8_3
                try clear hx248_0
                try clear hx248_1
                try clear hx248_2
                try clear hx248_3
                try clear p2
                try clear p248
                try clear q248
                obtain ⟨kq, x35_5, rfl, HA, HJ5, BK249, HB⟩ := hcut
                cases kq with
                | zero => exact absurd HA.out (by simp [impl_FeedValid.j1])
                | succ kj5 =>
                  have H := HA.out
                  clear HA
                  simp only [impl_FeedValid.j1] at H
                  by_cases c17 : x35_5 = true
                  · subst c17
                    have H1 : (some false) = some r := by rw [if_pos rfl] at H; exact H
                    clear H
                    have H := H1
                    clear H1
                    obtain rfl := Option.some.inj H
                    go_wp2
                    repeat (go_quiet (fail); try go_wp2)
                    go_ret
                    exact ⟨fe, bp HB.out⟩
                  · replace c17 := Bool.eq_false_iff.mpr c17
                    subst c17
                    have H1 : (if ((rd_T75 l0 x10_1).f2) = (-1) then (if ((rd_T75 l0 x10_1).f3) = (-1) then (impl_FeedValid.j2 kj5 l0 x10_1 l0 (l0.length : Int) x10_1 false ((rd_T75 l0 x10_1).f0) ((rd_T75 l0 x10_1).f1) ((rd_T75 l0 x10_1).f2) ((rd_T75 l0 x10_1).f3)) else ((impl_valueValid.f ((rd_T75 l0 x10_1).f3)).bind fun t251 => (impl_FeedValid.j2 kj5 l0 x10_1 l0 (l0.length : Int) x10_1 (!t251) ((rd_T75 l0 x10_1).f0) ((rd_T75 l0 x10_1).f1) ((rd_T75 l0 x10_1).f2) ((rd_T75 l0 x10_1).f3)))) else ((impl_valueValid.f ((rd_T75 l0 x10_1).f2)).bind fun t252 => (if t252 = true then (if ((rd_T75 l0 x10_1).f3) = (-1) then (impl_FeedValid.j2 kj5 l0 x10_1 l0 (l0.length : Int) x10_1 false ((rd_T75 l0 x10_1).f0) ((rd_T75 l0 x10_1).f1) ((rd_T75 l0 x10_1).f2) ((rd_T75 l0 x10_1).f3)) else ((impl_valueValid.f ((rd_T75 l0 x10_1).f3)).bind fun t253 => (impl_FeedValid.j2 kj5 l0 x10_1 l0 (l0.length : Int) x10_1 (!t253) ((rd_T75 l0 x10_1).f0) ((rd_T75 l0 x10_1).f1) ((rd_T75 l0 x10_1).f2) ((rd_T75 l0 x10_1).f3)))) else (impl_FeedValid.j2 kj5 l0 x10_1 l0 (l0.length : Int) x10_1 true ((rd_T75 l0 x10_1).f0) ((rd_T75 l0 x10_1).f1) ((rd_T75 l0 x10_1).f2) ((rd_T75 l0 x10_1).f3))))) = some r := by rw [if_neg (show ¬ (false = true) by decide)] at H; exact H
                    clear H
                    have H := H1
                    clear H1
                    have HC18 := Aside0.mk H
                    clear H
                    go_upto_region 8 with (fail)
                    repeat (go_quiet (fail); go_upto_region 8 with (fail))
                    go_cut [55] (fun v55 wc => ∃ (kq : Nat) (x55_17 : Bool), v55 = .bool x55_17 ∧ Aside0 (impl_FeedValid.j2 kq l0 x10_1 l0 (l0.length : Int) x10_1 x55_17 ((rd_T75 l0 x10_1).f0) ((rd_T75 l0 x10_1).f1) ((rd_T75 l0 x10_1).f2) ((rd_T75 l0 x10_1).f3) = some r) ∧ Aside0 (kq ≤ kj5) ∧ Aside0 (wc.heap[gb249]? = some (.cells #[.int .i64 ((rd_T75 l0 x10_1).f0), .string ((rd_T75 l0 x10_1).f1), .int .i64 ((rd_T75 l0 x10_1).f2), .int .i64 ((rd_T75 l0 x10_1).f3)] 75 (0, 0))) ∧ Aside0 (Below w.heap.size w wc))
                    case first =>
                      have H := HC18.out
                      clear HC18
                      by_cases c19 : ((rd_T75 l0 x10_1).f2) = (-1)
                      · rw [if_pos c19] at H
                        have c19b0 : (((rd_T75 l0 x10_1).f2) == (-1)) = true := beq_iff_eq.mpr c19
                        have c19b1 : (((rd_T75 l0 x10_1).f2) != (-1)) = false := bne_eq_false_iff_eq.mpr c19
                        clear c19
                        (first | rw [c19b0] | (simp only [i64_w, i32_w]; rw [c19b0]) | skip)
                        by_cases c20 : ((rd_T75 l0 x10_1).f3) = (-1)
                        · rw [if_pos c20] at H
                          have c20b0 : (((rd_T75 l0 x10_1).f3) == (-1)) = true := beq_iff_eq.mpr c20
                          have c20b1 : (((rd_T75 l0 x10_1).f3) != (-1)) = false := bne_eq_false_iff_eq.mpr c20
                          clear c20
                          have H' := Aside0.mk H
                          clear H
                          obtain ⟨hcz21_0, hcz21_1, hcz21_2, hcz21_3, hfz21_0, hfz21_1, hfz21_2, hfz21_3⟩ := cl4 BK249
                          go_wp2
                          repeat (go_quiet (fail); try go_wp2)
                          go_meet
                          case rel => exact ⟨_, (false), (by first | rfl | (simp; done) | (simp [*]; done) | (simp [bne_nil_, beq_nil_]; done)), H', ⟨by have := HK1.out; have := HJ5.out; first | omega | exact Nat.le_refl _⟩, ⟨kb BK249.out⟩, ⟨bp HB.out⟩⟩
                        · rw [if_neg c20] at H
                          have c20b0 : (((rd_T75 l0 x10_1).f3) == (-1)) = false := beq_eq_false_iff_ne.mpr c20
                          have c20b1 : (((rd_T75 l0 x10_1).f3) != (-1)) = true := bne_iff_ne.mpr c20
                          replace H := Option.bind_eq_some_iff.mp H
                          obtain ⟨t251, A220, H⟩ := H
                          replace H : (impl_FeedValid.j2 kj5 l0 x10_1 l0 (l0.length : Int) x10_1 (!t251) ((rd_T75 l0 x10_1).f0) ((rd_T75 l0 x10_1).f1) ((rd_T75 l0 x10_1).f2) ((rd_T75 l0 x10_1).f3)) = some r := H
                          have A22 := Aside0.mk A220
                          clear A220
                          have H' := Aside0.mk H
                          clear H
                          obtain ⟨hcz23_0, hcz23_1, hcz23_2, hcz23_3, hfz23_0, hfz23_1, hfz23_2, hfz23_3⟩ := cl4 BK249
                          go_wp2_with (first | (go_at_call 75; (with_reducible refine (impl_valueValid.calls ((rd_T75 l0 x10_1).f3) t251 _ A22.out).mono ?_); rintro e w' ⟨rfl, ⟨nd, rfl⟩⟩; (try first | exact ⟨rfl, _, World.drewN_drewN _ _ _⟩ | exact ⟨rfl, _, Eq.trans (World.drewN_drewN _ _ _) (congrArg (World.drewN _) (Nat.add_assoc _ _ _))⟩)))
                          repeat (go_quiet (first | (go_at_call 75; (with_reducible refine (impl_valueValid.calls ((rd_T75 l0 x10_1).f3) t251 _ A22.out).mono ?_); rintro e w' ⟨rfl, ⟨nd, rfl⟩⟩; (try first | exact ⟨rfl, _, World.drewN_drewN _ _ _⟩ | exact ⟨rfl, _, Eq.trans (World.drewN_drewN _ _ _) (congrArg (World.drewN _) (Nat.add_assoc _ _ _))⟩))); try go_wp2_with (first | (go_at_call 75; (with_reducible refine (impl_valueValid.calls ((rd_T75 l0 x10_1).f3) t251 _ A22.out).mono ?_); rintro e w' ⟨rfl, ⟨nd, rfl⟩⟩; (try first | exact ⟨rfl, _, World.drewN_drewN _ _ _⟩ | exact ⟨rfl, _, Eq.trans (World.drewN_drewN _ _ _) (congrArg (World.drewN _) (Nat.add_assoc _ _ _))⟩))))
                          go_meet
                          case rel => exact ⟨_, (!t251), (by first | rfl | (simp; done) | (simp [*]; done) | (simp [bne_nil_, beq_nil_]; done)), H', ⟨by have := HK1.out; have := HJ5.out; first | omega | exact Nat.le_refl _⟩, ⟨kb BK249.out⟩, ⟨bp HB.out⟩⟩
                      · rw [if_neg c19] at H
                        have c19b0 : (((rd_T75 l0 x10_1).f2) == (-1)) = false := beq_eq_false_iff_ne.mpr c19
                        have c19b1 : (((rd_T75 l0 x10_1).f2) != (-1)) = true := bne_iff_ne.mpr c19
                        (first | rw [c19b0] | (simp only [i64_w, i32_w]; rw [c19b0]) | skip)
                        replace H := Option.bind_eq_some_iff.mp H
                        obtain ⟨t252, A240, H⟩ := H
                        replace H : (if t252 = true then (if ((rd_T75 l0 x10_1).f3) = (-1) then (impl_FeedValid.j2 kj5 l0 x10_1 l0 (l0.length : Int) x10_1 false ((rd_T75 l0 x10_1).f0) ((rd_T75 l0 x10_1).f1) ((rd_T75 l0 x10_1).f2) ((rd_T75 l0 x10_1).f3)) else ((impl_valueValid.f ((rd_T75 l0 x10_1).f3)).bind fun t253 => (impl_FeedValid.j2 kj5 l0 x10_1 l0 (l0.length : Int) x10_1 (!t253) ((rd_T75 l0 x10_1).f0) ((rd_T75 l0 x10_1).f1) ((rd_T75 l0 x10_1).f2) ((rd_T75 l0 x10_1).f3)))) else (impl_FeedValid.j2 kj5 l0 x10_1 l0 (l0.length : Int) x10_1 true ((rd_T75 l0 x10_1).f0) ((rd_T75 l0 x10_1).f1) ((rd_T75 l0 x10_1).f2) ((rd_T75 l0 x10_1).f3))) = some r := H
                        have A24 := Aside0.mk A240
                        clear A240
                        by_cases c25 : t252 = true
                        · subst c25
                          have H1 : (if ((rd_T75 l0 x10_1).f3) = (-1) then (impl_FeedValid.j2 kj5 l0 x10_1 l0 (l0.length : Int) x10_1 false ((rd_T75 l0 x10_1).f0) ((rd_T75 l0 x10_1).f1) ((rd_T75 l0 x10_1).f2) ((rd_T75 l0 x10_1).f3)) else ((impl_valueValid.f ((rd_T75 l0 x10_1).f3)).bind fun t253 => (impl_FeedValid.j2 kj5 l0 x10_1 l0 (l0.length : Int) x10_1 (!t253) ((rd_T75 l0 x10_1).f0) ((rd_T75 l0 x10_1).f1) ((rd_T75 l0 x10_1).f2) ((rd_T75 l0 x10_1).f3)))) = some r := by rw [if_pos rfl] at H; exact H
                          clear H
                          have H := H1
                          clear H1
                          by_cases c26 : ((rd_T75 l0 x10_1).f3) = (-1)
                          · rw [if_pos c26] at H
                            have c26b0 : (((rd_T75 l0 x10_1).f3) == (-1)) = true := beq_iff_eq.mpr c26
                            have c26b1 : (((rd_T75 l0 x10_1).f3) != (-1)) = false := bne_eq_false_iff_eq.mpr c26
                            clear c26
                            have H' := Aside0.mk H
                            clear H
                            obtain ⟨hcz27_0, hcz27_1, hcz27_2, hcz27_3, hfz27_0, hfz27_1, hfz27_2, hfz27_3⟩ := cl4 BK249
                            go_wp2_with (first | (go_at_call 75; (with_reducible refine (impl_valueValid.calls ((rd_T75 l0 x10_1).f2) true _ A24.out).mono ?_); rintro e w' ⟨rfl, ⟨nd, rfl⟩⟩; (try first | exact ⟨rfl, _, World.drewN_drewN _ _ _⟩ | exact ⟨rfl, _, Eq.trans (World.drewN_drewN _ _ _) (congrArg (World.drewN _) (Nat.add_assoc _ _ _))⟩)))
                            repeat (go_quiet (first | (go_at_call 75; (with_reducible refine (impl_valueValid.calls ((rd_T75 l0 x10_1).f2) true _ A24.out).mono ?_); rintro e w' ⟨rfl, ⟨nd, rfl⟩⟩; (try first | exact ⟨rfl, _, World.drewN_drewN _ _ _⟩ | exact ⟨rfl, _, Eq.trans (World.drewN_drewN _ _ _) (congrArg (World.drewN _) (Nat.add_assoc _ _ _))⟩))); try go_wp2_with (first | (go_at_call 75; (with_reducible refine (impl_valueValid.calls ((rd_T75 l0 x10_1).f2) true _ A24.out).mono ?_); rintro e w' ⟨rfl, ⟨nd, rfl⟩⟩; (try first | exact ⟨rfl, _, World.drewN_drewN _ _ _⟩ | exact ⟨rfl, _, Eq.trans (World.drewN_drewN _ _ _) (congrArg (World.drewN _) (Nat.add_assoc _ _ _))⟩))))
                            go_meet
                            case rel => exact ⟨_, (false), (by first | rfl | (simp; done) | (simp [*]; done) | (simp [bne_nil_, beq_nil_]; done)), H', ⟨by have := HK1.out; have := HJ5.out; first | omega | exact Nat.le_refl _⟩, ⟨kb BK249.out⟩, ⟨bp HB.out⟩⟩
                          · rw [if_neg c26] at H
                            have c26b0 : (((rd_T75 l0 x10_1).f3) == (-1)) = false := beq_eq_false_iff_ne.mpr c26
                            have c26b1 : (((rd_T75 l0 x10_1).f3) != (-1)) = true := bne_iff_ne.mpr c26
                            replace H := Option.bind_eq_some_iff.mp H
                            obtain ⟨t253, A280, H⟩ := H
                            replace H : (impl_FeedValid.j2 kj5 l0 x10_1 l0 (l0.length : Int) x10_1 (!t253) ((rd_T75 l0 x10_1).f0) ((rd_T75 l0 x10_1).f1) ((rd_T75 l0 x10_1).f2) ((rd_T75 l0 x10_1).f3)) = some r := H
                            have A28 := Aside0.mk A280
                            clear A280
                            have H' := Aside0.mk H
                            clear H
                            obtain ⟨hcz29_0, hcz29_1, hcz29_2, hcz29_3, hfz29_0, hfz29_1, hfz29_2, hfz29_3⟩ := cl4 BK249
                            go_wp2_with (first | (go_at_call 75; (with_reducible refine (impl_valueValid.calls ((rd_T75 l0 x10_1).f2) true _ A24.out).mono ?_); rintro e w' ⟨rfl, ⟨nd, rfl⟩⟩; (try first | exact ⟨rfl, _, World.drewN_drewN _ _ _⟩ | exact ⟨rfl, _, Eq.trans (World.drewN_drewN _ _ _) (congrArg (World.drewN _) (Nat.add_assoc _ _ _))⟩)) | (go_at_call 75; (with_reducible refine (impl_valueValid.calls ((rd_T75 l0 x10_1).f3) t253 _ A28.out).mono ?_); rintro e w' ⟨rfl, ⟨nd, rfl⟩⟩; (try first | exact ⟨rfl, _, World.drewN_drewN _ _ _⟩ | exact ⟨rfl, _, Eq.trans (World.drewN_drewN _ _ _) (congrArg (World.drewN _) (Nat.add_assoc _ _ _))⟩)))
                            repeat (go_quiet (first | (go_at_call 75; (with_reducible refine (impl_valueValid.calls ((rd_T75 l0 x10_1).f2) true _ A24.out).mono ?_); rintro e w' ⟨rfl, ⟨nd, rfl⟩⟩; (try first | exact ⟨rfl, _, World.drewN_drewN _ _ _⟩ | exact ⟨rfl, _, Eq.trans (World.drewN_drewN _ _ _) (congrArg (World.drewN _) (Nat.add_assoc _ _ _))⟩)) | (go_at_call 75; (with_reducible refine (impl_valueValid.calls ((rd_T75 l0 x10_1).f3) t253 _ A28.out).mono ?_); rintro e w' ⟨rfl, ⟨nd, rfl⟩⟩; (try first | exact ⟨rfl, _, World.drewN_drewN _ _ _⟩ | exact ⟨rfl, _, Eq.trans (World.drewN_drewN _ _ _) (congrArg (World.drewN _) (Nat.add_assoc _ _ _))⟩))); try go_wp2_with (first | (go_at_call 75; (with_reducible refine (impl_valueValid.calls ((rd_T75 l0 x10_1).f2) true _ A24.out).mono ?_); rintro e w' ⟨rfl, ⟨nd, rfl⟩⟩; (try first | exact ⟨rfl, _, World.drewN_drewN _ _ _⟩ | exact ⟨rfl, _, Eq.trans (World.drewN_drewN _ _ _) (congrArg (World.drewN _) (Nat.add_assoc _ _ _))⟩)) | (go_at_call 75; (with_reducible refine (impl_valueValid.calls ((rd_T75 l0 x10_1).f3) t253 _ A28.out).mono ?_); rintro e w' ⟨rfl, ⟨nd, rfl⟩⟩; (try first | exact ⟨rfl, _, World.drewN_drewN _ _ _⟩ | exact ⟨rfl, _, Eq.trans (World.drewN_drewN _ _ _) (congrArg (World.drewN _) (Nat.add_assoc _ _ _))⟩))))
                            go_meet
                            case rel => exact ⟨_, (!t253), (by first | rfl | (simp; done) | (simp [*]; done) | (simp [bne_nil_, beq_nil_]; done)), H', ⟨by have := HK1.out; have := HJ5.out; first | omega | exact Nat.le_refl _⟩, ⟨kb BK249.out⟩, ⟨bp HB.out⟩⟩
                        · replace c25 := Bool.eq_false_iff.mpr c25
                          subst c25
                          have H1 : (impl_FeedValid.j2 kj5 l0 x10_1 l0 (l0.length : Int) x10_1 true ((rd_T75 l0 x10_1).f0) ((rd_T75 l0 x10_1).f1) ((rd_T75 l0 x10_1).f2) ((rd_T75 l0 x10_1).f3)) = some r := by rw [if_neg (show ¬ (false = true) by decide)] at H; exact H
                          clear H
                          have H := H1
                          clear H1
                          have H' := Aside0.mk H
                          clear H
                          obtain ⟨hcz30_0, hcz30_1, hcz30_2, hcz30_3, hfz30_0, hfz30_1, hfz30_2, hfz30_3⟩ := cl4 BK249
                          go_wp2_with (first | (go_at_call 75; (with_reducible refine (impl_valueValid.calls ((rd_T75 l0 x10_1).f2) false _ A24.out).mono ?_); rintro e w' ⟨rfl, ⟨nd, rfl⟩⟩; (try first | exact ⟨rfl, _, World.drewN_drewN _ _ _⟩ | exact ⟨rfl, _, Eq.trans (World.drewN_drewN _ _ _) (congrArg (World.drewN _) (Nat.add_assoc _ _ _))⟩)))
                          repeat (go_quiet (first | (go_at_call 75; (with_reducible refine (impl_valueValid.calls ((rd_T75 l0 x10_1).f2) false _ A24.out).mono ?_); rintro e w' ⟨rfl, ⟨nd, rfl⟩⟩; (try first | exact ⟨rfl, _, World.drewN_drewN _ _ _⟩ | exact ⟨rfl, _, Eq.trans (World.drewN_drewN _ _ _) (congrArg (World.drewN _) (Nat.add_assoc _ _ _))⟩))); try go_wp2_with (first | (go_at_call 75; (with_reducible refine (impl_valueValid.calls ((rd_T75 l0 x10_1).f2) false _ A24.out).mono ?_); rintro e w' ⟨rfl, ⟨nd, rfl⟩⟩; (try first | exact ⟨rfl, _, World.drewN_drewN _ _ _⟩ | exact ⟨rfl, _, Eq.trans (World.drewN_drewN _ _ _) (congrArg (World.drewN _) (Nat.add_assoc _ _ _))⟩))))
                          go_meet
                          case rel => exact ⟨_, (true), (by first | rfl | (simp; done) | (simp [*]; done) | (simp [bne_nil_, beq_nil_]; done)), H', ⟨by have := HK1.out; have := HJ5.out; first | omega | exact Nat.le_refl _⟩, ⟨kb BK249.out⟩, ⟨bp HB.out⟩⟩
                    case rest =>
                      clear HC18
                      try clear c1
                      try clear c2
                      try clear c2b0
                      try clear c2b1
                      try clear p2
                      try clear q2
                      try clear hx2
                      try clear c3
                      try clear c3b0
                      try clear c4
                      try clear c4b0
                      try clear c5
                      try clear c5b0
                      try clear p6
                      try clear c9
                      try clear c9b0
                      try clear c11
                      try clear c11b0
                      try clear c14
                      try clear c17
                      try clear c19
                      try clear c19b0
                      try clear c19b1
                      try clear c20
                      try clear c20b0
                      try clear c20b1
                      try clear p24
                      try clear q24
                      try clear hx24
                      try clear c25
                      try clear c26
                      try clear c26b0
                      try clear c26b1
                      try clear hcz10_0
                      try clear hcz10_1
                      try clear hcz10_2
                      try clear hcz10_3
                      try clear hcz12_0
                      try clear hcz12_1
                      try clear hcz12_2
                      try clear hcz12_3
                      try clear hcz15_0
                      try clear hcz15_1
                      try clear hcz15_2
                      try clear hcz15_3
                      try clear hcz16_0
                      try clear hcz16_1
                      try clear hcz16_2
                      try clear hcz16_3
                      try clear hcz21_0
                      try clear hcz21_1
                      try clear hcz21_2
                      try clear hcz21_3
                      try clear hcz23_0
                      try clear hcz23_1
                      try clear hcz23_2
                      try clear hcz23_3
                      try clear hcz27_0
                      try clear hcz27_1
                      try clear hcz27_2
                      try clear hcz27_3
                      try clear hcz29_0
                      try clear hcz29_1
                      try clear hcz29_2
                      try clear hcz29_3
                      try clear hcz30_0
                      try clear hcz30_1
                      try clear hcz30_2
                      try clear hcz30_3
                      try clear hcz8_0
                      try clear hcz8_1
                      try clear hcz8_2
                      try clear hcz8_3
                      try clear hfz10_0
                      try clear hfz10_1
                      try clear hfz10_2
                      try clear hfz10_3
                      try clear hfz12_0
                      try clear hfz12_1
                      try clear hfz12_2
                      try clear hfz12_3
                      try clear hfz15_0
                      try clear hfz15_1
                      try clear hfz15_2
                      try clear hfz15_3
                      try clear hfz16_0
                      try clear hfz16_1
                      try clear hfz16_2
                      try clear hfz16_3
                      try clear hfz21_0
                      try clear hfz21_1
                      try clear hfz21_2
                      try clear hfz21_3
                      try clear hfz23_0
                      try clear hfz23_1
                      try clear hfz23_2
                      try clear hfz23_3
                      try clear hfz27_0
                      try clear hfz27_1
                      try clear hfz27_2
                      try clear hfz27_3
                      try clear hfz29_0
                      try clear hfz29_1
                      try clear hfz29_2
                      try clear hfz29_3
                      try clear hfz30_0
                      try clear hfz30_1
                      try clear hfz30_2
                      try clear hfz30_3
                      try clear hfz8_0
                      try clear hfz8_1
                      try clear hfz8_2
                      try clear hfz8_3
                      try clear hx248_0
                      try clear hx248_1
                      try clear hx248_2
                      try clear hx248_3
                      try clear p2
                      try clear p248
                      try clear p6
                      try clear q2
                      try clear q248
                      obtain ⟨kq, x55_17, rfl, HA, HJ17, BK249, HB⟩ := hcut
                      cases kq with
                      | zero => exact absurd HA.out (by simp [impl_FeedValid.j2])
                      | succ kj17 =>
                        have H := HA.out
                        clear HA
                        simp only [impl_FeedValid.j2] at H
                        by_cases c31 : x55_17 = true
                        · subst c31
                          have H1 : (some false) = some r := by rw [if_pos rfl] at H; exact H
                          clear H
                          have H := H1
                          clear H1
                          obtain rfl := Option.some.inj H
                          go_wp2
                          repeat (go_quiet (fail); try go_wp2)
                          go_ret
                          exact ⟨fe, bp HB.out⟩
                        · replace c31 := Bool.eq_false_iff.mpr c31
                          subst c31
                          have H1 : (if x10_1 > 0 then (if 0 ≤ (wrap64 (x10_1 - 1)) then (if (wrap64 (x10_1 - 1)) < (l0.length : Int) then (if ((rd_T75 l0 (wrap64 (x10_1 - 1))).f0) ≥ ((rd_T75 l0 x10_1).f0) then (some false) else (impl_FeedValid.l0 kj17 l0 l0 (l0.length : Int) (wrap64 (x10_1 + 1)))) else (none)) else (none)) else (impl_FeedValid.l0 kj17 l0 l0 (l0.length : Int) (wrap64 (x10_1 + 1)))) = some r := by rw [if_neg (show ¬ (false = true) by decide)] at H; exact H
                          clear H
                          have H := H1
                          clear H1
                          by_cases c32 : x10_1 > 0
                          · rw [if_pos c32] at H
                            have c32b0 : decide (0 < x10_1) = true := decide_eq_true c32
                            clear c32
                            obtain ⟨ji33, hji33⟩ : ∃ j_ : Int, (wrap64 (x10_1 - 1)) = j_ := ⟨_, rfl⟩
                            replace H : (if 0 ≤ (ji33) then (if (ji33) < (l0.length : Int) then (if ((rd_T75 l0 (ji33)).f0) ≥ ((rd_T75 l0 x10_1).f0) then (some false) else (impl_FeedValid.l0 kj17 l0 l0 (l0.length : Int) (wrap64 (x10_1 + 1)))) else (none)) else (none)) = some r := by first | (rw [hji33] at H; exact H) | (simp only [hji33] at H ⊢; exact H)
                            have hji33w : (IntKind.i64.wrap (x10_1 - 1)) = ji33 := (i64_w _).trans hji33
                            by_cases c34 : 0 ≤ (ji33)
                            · rw [if_pos c34] at H
                              have c34b0 : decide (0 ≤ (ji33)) = true := decide_eq_true c34
                              clear c34
                              by_cases c35 : (ji33) < (l0.length : Int)
                              · rw [if_pos c35] at H
                                have c35b0 : decide ((ji33) < (l0.length : Int)) = true := decide_eq_true c35
                                clear c35
                                by_cases c36 : ((rd_T75 l0 (ji33)).f0) ≥ ((rd_T75 l0 x10_1).f0)
                                · rw [if_pos c36] at H
                                  have c36b0 : decide (((rd_T75 l0 x10_1).f0) ≤ ((rd_T75 l0 (ji33)).f0)) = true := decide_eq_true c36
                                  clear c36
                                  obtain rfl := Option.some.inj H
                                  have p254 : 0 ≤ ((ji33) : Int) := of_decide_eq_true (by first | (with_reducible assumption) | assumption)
                                  have q254 : (ji33) < (l0.length : Int) := of_decide_eq_true (by first | (with_reducible assumption) | assumption)
                                  obtain ⟨ad254, e254, hx254_0, hx254_1, hx254_2, hx254_3⟩ := at_T75 HR0.out (ji33) p254 q254
                                  obtain rfl : ad248 = ad254 := (by injection e254)
                                  replace hx254_0 := hcx HB hx254_0
                                  replace hx254_1 := hcx HB hx254_1
                                  replace hx254_2 := hcx HB hx254_2
                                  replace hx254_3 := hcx HB hx254_3
                                  replace p254 := eq_true p254
                                  replace q254 := eq_true q254
                                  obtain ⟨hcz37_0, hcz37_1, hcz37_2, hcz37_3, hfz37_0, hfz37_1, hfz37_2, hfz37_3⟩ := cl4 BK249
                                  go_wp2
                                  repeat (go_quiet (fail); try go_wp2)
                                  go_ret
                                  exact ⟨by first | rfl | (simp [errW_none, errW_some] <;> rfl) | (simp only [← hji33]; first | rfl | (simp [errW_none, errW_some] <;> rfl)) | (simp [*, errW_none, errW_some] <;> rfl) | (simp only [IntKind.wrap_u8, show ∀ n_ : Int, wrap64 (n_ % 256) = n_ % 256 from fun n_ => by unfold wrap64; omega]; rfl), bp HB.out⟩
                                · rw [if_neg c36] at H
                                  have c36b0 : decide (((rd_T75 l0 x10_1).f0) ≤ ((rd_T75 l0 (ji33)).f0)) = false := decide_eq_false c36
                                  clear c36
                                  have H' := Aside0.mk H
                                  clear H
                                  have p254 : 0 ≤ ((ji33) : Int) := of_decide_eq_true (by first | (with_reducible assumption) | assumption)
                                  have q254 : (ji33) < (l0.length : Int) := of_decide_eq_true (by first | (with_reducible assumption) | assumption)
                                  obtain ⟨ad254, e254, hx254_0, hx254_1, hx254_2, hx254_3⟩ := at_T75 HR0.out (ji33) p254 q254
                                  obtain rfl : ad248 = ad254 := (by injection e254)
                                  replace hx254_0 := hcx HB hx254_0
                                  replace hx254_1 := hcx HB hx254_1
                                  replace hx254_2 := hcx HB hx254_2
                                  replace hx254_3 := hcx HB hx254_3
                                  replace p254 := eq_true p254
                                  replace q254 := eq_true q254
                                  obtain ⟨hcz38_0, hcz38_1, hcz38_2, hcz38_3, hfz38_0, hfz38_1, hfz38_2, hfz38_3⟩ := cl4 BK249
                                  go_wp2
                                  repeat (go_quiet (fail); try go_wp2)
                                  go_roundg kj17
                                  case measure => have := HK1.out; have := HJ5.out; have := HJ17.out; omega
                                  case rel => exact ⟨(wrap64 (x10_1 + 1)), (by first | rfl | (simp; done) | (simp [*]; done) | (simp [bne_nil_, beq_nil_]; done)), H', ⟨by have := HK1.out; have := HJ5.out; have := HJ17.out; omega⟩, ⟨bp HB.out⟩⟩
                              · rw [if_neg c35] at H
                                exact absurd H (by simp)
                            · rw [if_neg c34] at H
                              exact absurd H (by simp)
                          · rw [if_neg c32] at H
                            have c32b0 : decide (0 < x10_1) = false := decide_eq_false c32
                            clear c32
                            have H' := Aside0.mk H
                            clear H
                            go_wp2
                            repeat (go_quiet (fail); try go_wp2)
                            go_roundg kj17
                            case measure => have := HK1.out; have := HJ5.out; have := HJ17.out; omega
                            case rel => exact ⟨(wrap64 (x10_1 + 1)), (by first | rfl | (simp; done) | (simp [*]; done) | (simp [bne_nil_, beq_nil_]; done)), H', ⟨by have := HK1.out; have := HJ5.out; have := HJ17.out; omega⟩, ⟨bp HB.out⟩⟩
            · rw [if_neg c5] at H
              exact absurd H (by simp)
          · rw [if_neg c4] at H
            exact absurd H (by simp)
        · rw [if_neg c3] at H
          have c3b0 : decide (x10_1 < (l0.length : Int)) = false := decide_eq_false c3
          clear c3
          obtain rfl := Option.some.inj H
          go_wp2
          repeat (go_quiet (fail); try go_wp2)
          go_ret
          exact ⟨fe, bp HB.out⟩

/-! ### impl_Pair_96: function 96 -/
def impl_Pair_96.f (l0 : List (S29)) : Option ((List (S29))) := if ([] : List (S29)).length + l0.length < 5864062014805 then (some (([] : List (S29)) ++ l0)) else (none)
set_option maxHeartbeats 8000000 in
set_option maxRecDepth 100000 in
theorem impl_Pair_96.calls (A0 : Option Addr) (c0 : Nat) (l0 : List (S29)) (r : List (S29)) (w : World) (hr0 : Kd.C k29 w A0 l0.length l0) (hc0 : l0.length ≤ c0) (h : impl_Pair_96.f l0 = some r) :
    Calls Try.prog 96 #[.slice A0 l0.length c0] w fun e w' => ∃ v0_ : Value, e = .returned (v0_) ∧ Kd.R k29 29 w' w.heap.size (fun _ => True) v0_ r ∧ Below w.heap.size w w' := by
  have HR0 := Aside0.mk hr0
  have HC0 := Aside0.mk hc0
  clear hr0 hc0
  have HB := Aside0.mk (Below.refl w.heap.size w)
  have H : (if ([] : List (S29)).length + l0.length < 5864062014805 then (some (([] : List (S29)) ++ l0)) else (none)) = some r := h
  clear h
  by_cases c2 : ([] : List (S29)).length + l0.length < 5864062014805
  · rw [if_pos c2] at H
    have LMc2 := Aside0.mk c2
    clear c2
    obtain ⟨y255, hy255⟩ : ∃ y_ : List (S29), y_ = (([] : List (S29)) ++ l0) := ⟨_, rfl⟩
    replace H : (some y255) = some r := by first | (rw [hy255]; with_reducible exact H) | (have H2_ := (Option.bind_some _ _).symm.trans H; rw [hy255]; with_reducible exact H2_) | (have H2_ := (Option.bind_some _ _).symm.trans H; with_reducible exact H2_) | with_reducible exact H | (rw [hy255]; exact H) | exact H
    have Ny255 := Aside0.mk hy255
    clear hy255
    obtain rfl := Option.some.inj H
    go_enter Try.func96, Try.ntmps96
    go_wp2_with (first | ((with_reducible refine gate_builtin (b := .append) (xs := #[.const (.slice none 0 0), .tmp 3]) rfl ?_); at_builtin; refine Kd.R_append_rows k29 (w0 := w) w.heap.size rfl (.const (.slice none 0 0)) (.tmp 3) 23 29 (.agg #[(.string ⟨#[]⟩), (.int .i64 0)]) 24 rfl Try.underlying23 info29 rfl (by decide) (by omega) (.slice none 0 0) ([] : List (S29)) l0 _ _ _ (fun _ => True) (fun _ => False) rfl rfl ?aO ?aR (fun _ _ h => h) (fun _ h => h.elim) ?aF ?aB ?aS ?aL ?_; (case aR => exact cc HR0.out); (case aB => exact (bp HB.out)); (case aF => exact (fun _ _ => trivial)); (case aO => exact ((Kd.R_nil _ _ _ _ (fun _ => True)))); (case aS => exact (below_size (bp HB.out))); (case aL => have := LMc2.out; omega); intro v256 w3 ho hb hg hat; rw [← Ny255.out] at ho; have n0_ := Aside0.mk (hb); have n1_ := Aside0.mk (ho); clear HB; have HB := n0_; have HO257 := n1_; clear n0_ n1_; clear ho hb hg hat))
    go_ret
    exact ⟨_, fe, by (with_reducible repeat (first | apply Kd.R_alloc | apply Kd.R_drewN | apply Kd.R_drew)); exact HO257.out, bp HB.out⟩
  · rw [if_neg c2] at H
    exact absurd H (by simp)

/-! ### cmp_isNaN_string: function 169 -/
def cmp_isNaN_string.f (a0 : ByteArray) : Option (Bool) := some (a0.toList != a0.toList)
set_option maxHeartbeats 8000000 in
set_option maxRecDepth 100000 in
theorem cmp_isNaN_string.calls (a0 : ByteArray) (r : Bool) (w : World) (h : cmp_isNaN_string.f a0 = some r) :
    Calls Try.prog 169 #[.string a0] w fun e w' => e = .returned (.bool r) ∧ Drawn0 w w' := by
  have H : (some (a0.toList != a0.toList)) = some r := h
  clear h
  obtain rfl := Option.some.inj H
  go_enter Try.func169, Try.ntmps169
  go_wp2
  go_ret
  exact ⟨by first | rfl | (simp; done) | (simp [*]; done) | (simp [bne_nil_, beq_nil_]; done), by repeat (first | exact Drawn0.refl _ | apply Drawn0.step)⟩

/-! ### cmp_Compare_string: function 150 -/
def cmp_Compare_string.f (a0 : ByteArray) (a1 : ByteArray) : Option (Int) := (cmp_isNaN_string.f a0).bind fun t258 => ((cmp_isNaN_string.f a1).bind fun t259 => (if t258 = true then (if t259 = true then (some 0) else (some (-1))) else (if t259 = true then (some 1) else (if (Op.bytesLess a0.toList a1.toList) = true then (some (-1)) else (if (Op.bytesLess a1.toList a0.toList) = true then (some 1) else (some 0))))))
set_option maxHeartbeats 8000000 in
set_option maxRecDepth 100000 in
theorem cmp_Compare_string.calls (a0 : ByteArray) (a1 : ByteArray) (r : Int) (w : World) (h : cmp_Compare_string.f a0 a1 = some r) :
    Calls Try.prog 150 #[.string a0, .string a1] w fun e w' => e = .returned (.int .i64 r) ∧ Drawn0 w w' := by
  have H : ((cmp_isNaN_string.f a0).bind fun t258 => ((cmp_isNaN_string.f a1).bind fun t259 => (if t258 = true then (if t259 = true then (some 0) else (some (-1))) else (if t259 = true then (some 1) else (if (Op.bytesLess a0.toList a1.toList) = true then (some (-1)) else (if (Op.bytesLess a1.toList a0.toList) = true then (some 1) else (some 0))))))) = some r := h
  clear h
  replace H := Option.bind_eq_some_iff.mp H
  obtain ⟨t258, A30, H⟩ := H
  replace H : ((cmp_isNaN_string.f a1).bind fun t259 => (if t258 = true then (if t259 = true then (some 0) else (some (-1))) else (if t259 = true then (some 1) else (if (Op.bytesLess a0.toList a1.toList) = true then (some (-1)) else (if (Op.bytesLess a1.toList a0.toList) = true then (some 1) else (some 0)))))) = some r := H
  have A3 := Aside0.mk A30
  clear A30
  replace H := Option.bind_eq_some_iff.mp H
  obtain ⟨t259, A40, H⟩ := H
  replace H : (if t258 = true then (if t259 = true then (some 0) else (some (-1))) else (if t259 = true then (some 1) else (if (Op.bytesLess a0.toList a1.toList) = true then (some (-1)) else (if (Op.bytesLess a1.toList a0.toList) = true then (some 1) else (some 0))))) = some r := H
  have A4 := Aside0.mk A40
  clear A40
  by_cases c5 : t258 = true
  · subst c5
    have H1 : (if t259 = true then (some 0) else (some (-1))) = some r := by rw [if_pos rfl] at H; exact H
    clear H
    have H := H1
    clear H1
    by_cases c6 : t259 = true
    · subst c6
      have H1 : (some 0) = some r := by rw [if_pos rfl] at H; exact H
      clear H
      have H := H1
      clear H1
      obtain rfl := Option.some.inj H
      go_enter Try.func150, Try.ntmps150
      go_wp2_with (first | ((with_reducible refine gate_callee (f := 169) rfl ?_); refine gsl (some 8) rfl Try.func169 #[.string a0] rfl ?_; (with_reducible refine (cmp_isNaN_string.calls a0 true _ A3.out).mono ?_); rintro e w' ⟨rfl, ⟨nd, rfl⟩⟩; refine ⟨_, rfl, ?_⟩) | ((with_reducible refine gate_callee (f := 169) rfl ?_); refine gsl (some 10) rfl Try.func169 #[.string a1] rfl ?_; (with_reducible refine (cmp_isNaN_string.calls a1 true _ A4.out).mono ?_); rintro e w' ⟨rfl, ⟨nd, rfl⟩⟩; refine ⟨_, rfl, ?_⟩))
      go_ret
      exact ⟨by first | rfl | (simp; done) | (simp [*]; done) | (simp [bne_nil_, beq_nil_]; done), by repeat (first | exact Drawn0.refl _ | apply Drawn0.step)⟩
    · replace c6 := Bool.eq_false_iff.mpr c6
      subst c6
      have H1 : (some (-1)) = some r := by rw [if_neg (show ¬ (false = true) by decide)] at H; exact H
      clear H
      have H := H1
      clear H1
      obtain rfl := Option.some.inj H
      go_enter Try.func150, Try.ntmps150
      go_wp2_with (first | ((with_reducible refine gate_callee (f := 169) rfl ?_); refine gsl (some 8) rfl Try.func169 #[.string a0] rfl ?_; (with_reducible refine (cmp_isNaN_string.calls a0 true _ A3.out).mono ?_); rintro e w' ⟨rfl, ⟨nd, rfl⟩⟩; refine ⟨_, rfl, ?_⟩) | ((with_reducible refine gate_callee (f := 169) rfl ?_); refine gsl (some 10) rfl Try.func169 #[.string a1] rfl ?_; (with_reducible refine (cmp_isNaN_string.calls a1 false _ A4.out).mono ?_); rintro e w' ⟨rfl, ⟨nd, rfl⟩⟩; refine ⟨_, rfl, ?_⟩))
      go_ret
      exact ⟨by first | rfl | (simp; done) | (simp [*]; done) | (simp [bne_nil_, beq_nil_]; done), by repeat (first | exact Drawn0.refl _ | apply Drawn0.step)⟩
  · replace c5 := Bool.eq_false_iff.mpr c5
    subst c5
    have H1 : (if t259 = true then (some 1) else (if (Op.bytesLess a0.toList a1.toList) = true then (some (-1)) else (if (Op.bytesLess a1.toList a0.toList) = true then (some 1) else (some 0)))) = some r := by rw [if_neg (show ¬ (false = true) by decide)] at H; exact H
    clear H
    have H := H1
    clear H1
    by_cases c7 : t259 = true
    · subst c7
      have H1 : (some 1) = some r := by rw [if_pos rfl] at H; exact H
      clear H
      have H := H1
      clear H1
      obtain rfl := Option.some.inj H
      go_enter Try.func150, Try.ntmps150
      go_wp2_with (first | ((with_reducible refine gate_callee (f := 169) rfl ?_); refine gsl (some 8) rfl Try.func169 #[.string a0] rfl ?_; (with_reducible refine (cmp_isNaN_string.calls a0 false _ A3.out).mono ?_); rintro e w' ⟨rfl, ⟨nd, rfl⟩⟩; refine ⟨_, rfl, ?_⟩) | ((with_reducible refine gate_callee (f := 169) rfl ?_); refine gsl (some 10) rfl Try.func169 #[.string a1] rfl ?_; (with_reducible refine (cmp_isNaN_string.calls a1 true _ A4.out).mono ?_); rintro e w' ⟨rfl, ⟨nd, rfl⟩⟩; refine ⟨_, rfl, ?_⟩))
      go_ret
      exact ⟨by first | rfl | (simp; done) | (simp [*]; done) | (simp [bne_nil_, beq_nil_]; done), by repeat (first | exact Drawn0.refl _ | apply Drawn0.step)⟩
    · replace c7 := Bool.eq_false_iff.mpr c7
      subst c7
      have H1 : (if (Op.bytesLess a0.toList a1.toList) = true then (some (-1)) else (if (Op.bytesLess a1.toList a0.toList) = true then (some 1) else (some 0))) = some r := by rw [if_neg (show ¬ (false = true) by decide)] at H; exact H
      clear H
      have H := H1
      clear H1
      by_cases c8 : (Op.bytesLess a0.toList a1.toList) = true
      · rw [if_pos c8] at H
        have c8b0 : (Op.bytesLess a0.toList a1.toList) = true := c8
        clear c8
        obtain rfl := Option.some.inj H
        go_enter Try.func150, Try.ntmps150
        go_wp2_with (first | ((with_reducible refine gate_callee (f := 169) rfl ?_); refine gsl (some 8) rfl Try.func169 #[.string a0] rfl ?_; (with_reducible refine (cmp_isNaN_string.calls a0 false _ A3.out).mono ?_); rintro e w' ⟨rfl, ⟨nd, rfl⟩⟩; refine ⟨_, rfl, ?_⟩) | ((with_reducible refine gate_callee (f := 169) rfl ?_); refine gsl (some 10) rfl Try.func169 #[.string a1] rfl ?_; (with_reducible refine (cmp_isNaN_string.calls a1 false _ A4.out).mono ?_); rintro e w' ⟨rfl, ⟨nd, rfl⟩⟩; refine ⟨_, rfl, ?_⟩))
        go_ret
        exact ⟨by first | rfl | (simp; done) | (simp [*]; done) | (simp [bne_nil_, beq_nil_]; done), by repeat (first | exact Drawn0.refl _ | apply Drawn0.step)⟩
      · rw [if_neg c8] at H
        have c8b0 : (Op.bytesLess a0.toList a1.toList) = false := by simpa using c8
        clear c8
        by_cases c9 : (Op.bytesLess a1.toList a0.toList) = true
        · rw [if_pos c9] at H
          have c9b0 : (Op.bytesLess a1.toList a0.toList) = true := c9
          clear c9
          obtain rfl := Option.some.inj H
          go_enter Try.func150, Try.ntmps150
          go_wp2_with (first | ((with_reducible refine gate_callee (f := 169) rfl ?_); refine gsl (some 8) rfl Try.func169 #[.string a0] rfl ?_; (with_reducible refine (cmp_isNaN_string.calls a0 false _ A3.out).mono ?_); rintro e w' ⟨rfl, ⟨nd, rfl⟩⟩; refine ⟨_, rfl, ?_⟩) | ((with_reducible refine gate_callee (f := 169) rfl ?_); refine gsl (some 10) rfl Try.func169 #[.string a1] rfl ?_; (with_reducible refine (cmp_isNaN_string.calls a1 false _ A4.out).mono ?_); rintro e w' ⟨rfl, ⟨nd, rfl⟩⟩; refine ⟨_, rfl, ?_⟩))
          go_ret
          exact ⟨by first | rfl | (simp; done) | (simp [*]; done) | (simp [bne_nil_, beq_nil_]; done), by repeat (first | exact Drawn0.refl _ | apply Drawn0.step)⟩
        · rw [if_neg c9] at H
          have c9b0 : (Op.bytesLess a1.toList a0.toList) = false := by simpa using c9
          clear c9
          obtain rfl := Option.some.inj H
          go_enter Try.func150, Try.ntmps150
          go_wp2_with (first | ((with_reducible refine gate_callee (f := 169) rfl ?_); refine gsl (some 8) rfl Try.func169 #[.string a0] rfl ?_; (with_reducible refine (cmp_isNaN_string.calls a0 false _ A3.out).mono ?_); rintro e w' ⟨rfl, ⟨nd, rfl⟩⟩; refine ⟨_, rfl, ?_⟩) | ((with_reducible refine gate_callee (f := 169) rfl ?_); refine gsl (some 10) rfl Try.func169 #[.string a1] rfl ?_; (with_reducible refine (cmp_isNaN_string.calls a1 false _ A4.out).mono ?_); rintro e w' ⟨rfl, ⟨nd, rfl⟩⟩; refine ⟨_, rfl, ?_⟩))
          go_ret
          exact ⟨by first | rfl | (simp; done) | (simp [*]; done) | (simp [bne_nil_, beq_nil_]; done), by repeat (first | exact Drawn0.refl _ | apply Drawn0.step)⟩

/-! ### impl_pairPlace_1: function 149 -/
def impl_pairPlace_1.f (a0_0 : ByteArray) (a0_1 : Int) (a1 : ByteArray) : Option (Int) := (cmp_Compare_string.f a0_0 a1).bind fun t261 => (some t261)
set_option maxHeartbeats 8000000 in
set_option maxRecDepth 100000 in
theorem impl_pairPlace_1.calls (a0_0 : ByteArray) (a0_1 : Int) (a1 : ByteArray) (r : Int) (w : World) (h : impl_pairPlace_1.f a0_0 a0_1 a1 = some r) :
    Calls Try.prog 149 #[.agg #[.string a0_0, .int .i64 a0_1], .string a1] w fun e w' => e = .returned (.int .i64 r) ∧ Below w.heap.size w w' := by
  have hu29 := Try.underlying29
  have HB := Aside0.mk (Below.refl w.heap.size w)
  have H : ((cmp_Compare_string.f a0_0 a1).bind fun t261 => (some t261)) = some r := h
  clear h
  replace H := Option.bind_eq_some_iff.mp H
  obtain ⟨t261, A30, H⟩ := H
  replace H : (some t261) = some r := H
  have A3 := Aside0.mk A30
  clear A30
  obtain rfl := Option.some.inj H
  go_enter Try.func149, Try.ntmps149
  go_wp2_with (first | ((with_reducible refine gate_dst (N := 2) rfl ?_); refine bxe (N := 2) (cs := #[.string a0_0, .int .i64 a0_1]) (t := 29) ?_; intro gb260 hg w4 hbox hb; have BK260 := Aside0.mk (hbox); have GW260 := an2 HB hg; have GE260 := an2 HB hg; replace HB := an0 HB hb; clear hb hbox hg; obtain ⟨hcz5_0, hcz5_1, hfz5_0, hfz5_1⟩ := cl2 BK260) | ((with_reducible refine gate_callee (f := 150) rfl ?_); refine gsl (some 8) rfl Try.func150 #[.string a0_0, .string a1] rfl ?_; (with_reducible refine (cmp_Compare_string.calls a0_0 a1 t261 _ A3.out).mono ?_); rintro e w' ⟨rfl, ⟨nd, rfl⟩⟩; refine ⟨_, rfl, ?_⟩))
  go_ret
  exact ⟨fe, bp HB.out⟩

end Go.Proofs.Ytfeeifefmenlmaa.PFnExactApplyFeed
