-- Written by a program of this session, in the manner of the kit's print (wip/pp.py): functions and their contracts.
import Derived.Test.YtkejaolfbejokaaPFnExactFeedFromx0
import Derived.Test.YtkejaolfbejokaaPFnExactFeedFromx3
namespace Go.Proofs.Ytkejaolfbejokaa.PFnExactFeedFrom
open Go.RowKit Go.Proofs.YtkejaolfbejokaaW.PrintWords Go.Proofs.YtkejaolfbejokaaW.PrintLast Go.Proofs.YtkejaolfbejokaaW.PrintMore
attribute [local go_sem] binOp_leq_str binOp_gtr_str binOp_geq_str max2_int min2_int max_two min_two max_three min_three max_four min_four   -- for this text's walks alone
set_option linter.unusedVariables false
set_option linter.unusedSimpArgs false

/-! ### impl_FeedValid: function 80 -/
mutual
def impl_FeedValid.l0 : Nat → List (S110) → List (S110) → Int → Int → Option (Bool)
  | 0, _, _, _, _ => none
  | k + 1, x0, x8, x9, x10 => if x10 < x9 then (if 0 ≤ x10 then (if x10 < (x8.length : Int) then (if ((rd_T110 x8 x10).f0) < 0 then (impl_FeedValid.j1 k x0 x10 x8 x9 x10 true ((rd_T110 x8 x10).f0) ((rd_T110 x8 x10).f1) ((rd_T110 x8 x10).f2) ((rd_T110 x8 x10).f3)) else (if ((rd_T110 x8 x10).f0) ≥ 24 then (impl_FeedValid.j1 k x0 x10 x8 x9 x10 true ((rd_T110 x8 x10).f0) ((rd_T110 x8 x10).f1) ((rd_T110 x8 x10).f2) ((rd_T110 x8 x10).f3)) else ((impl_KeyValid.f k ((rd_T110 x8 x10).f1)).bind fun t137 => (if t137 = true then (impl_FeedValid.j1 k x0 x10 x8 x9 x10 (((rd_T110 x8 x10).f2) == ((rd_T110 x8 x10).f3)) ((rd_T110 x8 x10).f0) ((rd_T110 x8 x10).f1) ((rd_T110 x8 x10).f2) ((rd_T110 x8 x10).f3)) else (impl_FeedValid.j1 k x0 x10 x8 x9 x10 true ((rd_T110 x8 x10).f0) ((rd_T110 x8 x10).f1) ((rd_T110 x8 x10).f2) ((rd_T110 x8 x10).f3)))))) else (none)) else (none)) else (some true)
def impl_FeedValid.j1 : Nat → List (S110) → Int → List (S110) → Int → Int → Bool → Int → ByteArray → Int → Int → Option (Bool)
  | 0, _, _, _, _, _, _, _, _, _, _ => none
  | k + 1, x0, x3, x8, x9, x10, x35, x137000, x137001, x137002, x137003 => if x35 = true then (some false) else (if x137002 = (-1) then (if x137003 = (-1) then (impl_FeedValid.j2 k x0 x3 x8 x9 x10 false x137000 x137001 x137002 x137003) else ((impl_valueValid.f x137003).bind fun t138 => (impl_FeedValid.j2 k x0 x3 x8 x9 x10 (!t138) x137000 x137001 x137002 x137003))) else ((impl_valueValid.f x137002).bind fun t139 => (if t139 = true then (if x137003 = (-1) then (impl_FeedValid.j2 k x0 x3 x8 x9 x10 false x137000 x137001 x137002 x137003) else ((impl_valueValid.f x137003).bind fun t140 => (impl_FeedValid.j2 k x0 x3 x8 x9 x10 (!t140) x137000 x137001 x137002 x137003))) else (impl_FeedValid.j2 k x0 x3 x8 x9 x10 true x137000 x137001 x137002 x137003))))
def impl_FeedValid.j2 : Nat → List (S110) → Int → List (S110) → Int → Int → Bool → Int → ByteArray → Int → Int → Option (Bool)
  | 0, _, _, _, _, _, _, _, _, _, _ => none
  | k + 1, x0, x3, x8, x9, x10, x55, x137000, x137001, x137002, x137003 => if x55 = true then (some false) else (if x3 > 0 then (if 0 ≤ (wrap64 (x3 - 1)) then (if (wrap64 (x3 - 1)) < (x0.length : Int) then (if ((rd_T110 x0 (wrap64 (x3 - 1))).f0) ≥ x137000 then (some false) else (impl_FeedValid.l0 k x0 x8 x9 (wrap64 (x10 + 1)))) else (none)) else (none)) else (impl_FeedValid.l0 k x0 x8 x9 (wrap64 (x10 + 1))))
end
def impl_FeedValid.f (k : Nat) (l0 : List (S110)) : Option (Bool) := if (l0.length : Int) > 24 then (some false) else (impl_FeedValid.l0 k l0 l0 (l0.length : Int) 0)
theorem impl_FeedValid.mono_l : ∀ k, (∀ y0 y1 y2 y3, LeO (impl_FeedValid.l0 k y0 y1 y2 y3) (impl_FeedValid.l0 (k + 1) y0 y1 y2 y3)) ∧ (∀ y0 y1 y2 y3 y4 y5 y6 y7 y8 y9, LeO (impl_FeedValid.j1 k y0 y1 y2 y3 y4 y5 y6 y7 y8 y9) (impl_FeedValid.j1 (k + 1) y0 y1 y2 y3 y4 y5 y6 y7 y8 y9)) ∧ (∀ y0 y1 y2 y3 y4 y5 y6 y7 y8 y9, LeO (impl_FeedValid.j2 k y0 y1 y2 y3 y4 y5 y6 y7 y8 y9) (impl_FeedValid.j2 (k + 1) y0 y1 y2 y3 y4 y5 y6 y7 y8 y9))
  | 0 => ⟨fun _ _ _ _ r h => by simp [impl_FeedValid.l0] at h, fun _ _ _ _ _ _ _ _ _ _ r h => by simp [impl_FeedValid.j1] at h, fun _ _ _ _ _ _ _ _ _ _ r h => by simp [impl_FeedValid.j2] at h⟩
  | k + 1 => by
    obtain ⟨ih0, ih1, ih2⟩ := impl_FeedValid.mono_l k
    refine ⟨?_, ?_, ?_⟩
    · intro y0 y1 y2 y3
      unfold impl_FeedValid.l0
      repeat' first
      | (with_reducible exact ih0 _ _ _ _)
      | (with_reducible exact ih1 _ _ _ _ _ _ _ _ _ _)
      | (with_reducible exact ih2 _ _ _ _ _ _ _ _ _ _)
      | (with_reducible exact impl_KeyValid.mono _ _)
      | (with_reducible exact LeO.refl _)
      | (with_reducible exact LeO.none _)
      | (with_reducible refine LeO.ite ?_ ?_)
      | (with_reducible refine LeO.bind ?_ (fun _ => ?_))
      | exact ih0 _ _ _ _
      | exact ih1 _ _ _ _ _ _ _ _ _ _
      | exact ih2 _ _ _ _ _ _ _ _ _ _
      | exact impl_KeyValid.mono _ _
      | exact LeO.none _
      | refine LeO.ite ?_ ?_
      | refine LeO.bind ?_ (fun _ => ?_)
    · intro y0 y1 y2 y3 y4 y5 y6 y7 y8 y9
      unfold impl_FeedValid.j1
      repeat' first
      | (with_reducible exact ih0 _ _ _ _)
      | (with_reducible exact ih1 _ _ _ _ _ _ _ _ _ _)
      | (with_reducible exact ih2 _ _ _ _ _ _ _ _ _ _)
      | (with_reducible exact impl_KeyValid.mono _ _)
      | (with_reducible exact LeO.refl _)
      | (with_reducible exact LeO.none _)
      | (with_reducible refine LeO.ite ?_ ?_)
      | (with_reducible refine LeO.bind ?_ (fun _ => ?_))
      | exact ih0 _ _ _ _
      | exact ih1 _ _ _ _ _ _ _ _ _ _
      | exact ih2 _ _ _ _ _ _ _ _ _ _
      | exact impl_KeyValid.mono _ _
      | exact LeO.none _
      | refine LeO.ite ?_ ?_
      | refine LeO.bind ?_ (fun _ => ?_)
    · intro y0 y1 y2 y3 y4 y5 y6 y7 y8 y9
      unfold impl_FeedValid.j2
      repeat' first
      | (with_reducible exact ih0 _ _ _ _)
      | (with_reducible exact ih1 _ _ _ _ _ _ _ _ _ _)
      | (with_reducible exact ih2 _ _ _ _ _ _ _ _ _ _)
      | (with_reducible exact impl_KeyValid.mono _ _)
      | (with_reducible exact LeO.refl _)
      | (with_reducible exact LeO.none _)
      | (with_reducible refine LeO.ite ?_ ?_)
      | (with_reducible refine LeO.bind ?_ (fun _ => ?_))
      | exact ih0 _ _ _ _
      | exact ih1 _ _ _ _ _ _ _ _ _ _
      | exact ih2 _ _ _ _ _ _ _ _ _ _
      | exact impl_KeyValid.mono _ _
      | exact LeO.none _
      | refine LeO.ite ?_ ?_
      | refine LeO.bind ?_ (fun _ => ?_)
theorem impl_FeedValid.mono : ∀ a0 k, LeO (impl_FeedValid.f k a0) (impl_FeedValid.f (k + 1) a0) := by
  intro a0 k
  obtain ⟨ih0, ih1, ih2⟩ := impl_FeedValid.mono_l k
  unfold impl_FeedValid.f
  repeat' first
      | (with_reducible exact ih0 _ _ _ _)
      | (with_reducible exact ih1 _ _ _ _ _ _ _ _ _ _)
      | (with_reducible exact ih2 _ _ _ _ _ _ _ _ _ _)
      | (with_reducible exact impl_KeyValid.mono _ _)
      | (with_reducible exact LeO.refl _)
      | (with_reducible exact LeO.none _)
      | (with_reducible refine LeO.ite ?_ ?_)
      | (with_reducible refine LeO.bind ?_ (fun _ => ?_))
      | exact ih0 _ _ _ _
      | exact ih1 _ _ _ _ _ _ _ _ _ _
      | exact ih2 _ _ _ _ _ _ _ _ _ _
      | exact impl_KeyValid.mono _ _
      | exact LeO.none _
      | refine LeO.ite ?_ ?_
      | refine LeO.bind ?_ (fun _ => ?_)
set_option maxHeartbeats 8000000 in
set_option maxRecDepth 100000 in
theorem impl_FeedValid.calls (k : Nat) (A0 : Option Addr) (c0 : Nat) (l0 : List (S110)) (r : Bool) (w : World) (hr0 : Kd.C k110 w A0 l0.length l0) (hc0 : l0.length ≤ c0) (h : impl_FeedValid.f k l0 = some r) :
    Calls Try.prog 80 #[.slice A0 l0.length c0] w fun e w' => e = .returned (.bool r) ∧ Below w.heap.size w w' := by
  have hu110 := Try.underlying110
  have HR0 := Aside0.mk hr0
  have HC0 := Aside0.mk hc0
  clear hr0 hc0
  have HB := Aside0.mk (Below.refl w.heap.size w)
  have H : (if (l0.length : Int) > 24 then (some false) else (impl_FeedValid.l0 k l0 l0 (l0.length : Int) 0)) = some r := h
  clear h
  by_cases c2 : (l0.length : Int) > 24
  · rw [if_pos c2] at H
    have c2b0 : decide (24 < (l0.length : Int)) = true := decide_eq_true c2
    have c2b1 : decide (24 < l0.length) = true := decide_eq_true (by omega)
    clear c2
    obtain rfl := Option.some.inj H
    go_enter Try.func80, Try.ntmps80
    go_wp2
    repeat (go_quiet (fail); try go_wp2)
    go_ret
    exact ⟨by first | rfl | (simp [errW_none, errW_some] <;> rfl) | (simp [*, errW_none, errW_some] <;> rfl) | (simp only [IntKind.wrap_u8, show ∀ n_ : Int, wrap64 (n_ % 256) = n_ % 256 from fun n_ => by unfold wrap64; omega]; rfl), by repeat (first | (with_reducible first | exact HB.out | apply below_alloc | apply pw_below_drewN | apply below_drew1) | exact HB.out)⟩
  · rw [if_neg c2] at H
    have c2b0 : decide (24 < (l0.length : Int)) = false := decide_eq_false c2
    have c2b1 : decide (24 < l0.length) = false := decide_eq_false (by omega)
    clear c2
    have H' := Aside0.mk H
    clear H
    go_enter Try.func80, Try.ntmps80
    go_wp2
    repeat (go_quiet (fail); try go_wp2)
    go_loopg [10] k (fun kq v10 w' => ∃ (x10_1 : Int), v10 = .int .i64 x10_1 ∧ Aside0 (impl_FeedValid.l0 kq l0 l0 (l0.length : Int) x10_1 = some r) ∧ Aside0 (kq ≤ k) ∧ Aside0 (Below w.heap.size w w'))
    case atStart => exact ⟨(0), (by first | rfl | (simp; done) | (simp [*]; done) | (simp [bne_nil_, beq_nil_]; done)), H', ⟨Nat.le_refl _⟩, ⟨by repeat (first | (with_reducible first | exact HB.out | apply below_alloc | apply pw_below_drewN | apply below_drew1) | exact HB.out)⟩⟩
    case round =>
      clear H'
      try clear c2
      try clear c2b0
      try clear c2b1
      try clear p2
      obtain ⟨x10_1, rfl, HA, HK1, HB⟩ := hrel
      cases gk with
      | zero => exact absurd HA.out (by simp [impl_FeedValid.l0])
      | succ k1 =>
        have H := HA.out
        clear HA
        simp only [impl_FeedValid.l0] at H
        by_cases c3 : x10_1 < (l0.length : Int)
        · rw [if_pos c3] at H
          have c3b0 : decide (x10_1 < (l0.length : Int)) = true := decide_eq_true c3
          clear c3
          by_cases c4 : 0 ≤ x10_1
          · rw [if_pos c4] at H
            have c4b0 : decide (0 ≤ x10_1) = true := decide_eq_true c4
            clear c4
            by_cases c5 : x10_1 < (l0.length : Int)
            · rw [if_pos c5] at H
              have c5b0 : decide (x10_1 < (l0.length : Int)) = true := decide_eq_true c5
              clear c5
              have HC6 := Aside0.mk H
              clear H
              have p135 : 0 ≤ (x10_1 : Int) := of_decide_eq_true (by first | (with_reducible assumption) | assumption)
              have q135 : x10_1 < (l0.length : Int) := of_decide_eq_true (by first | (with_reducible assumption) | assumption)
              obtain ⟨ad135, e135, hx135_0, hx135_1, hx135_2, hx135_3⟩ := at_T110 HR0.out x10_1 p135 q135
              cases e135
              replace hx135_0 := (HB.out.cell (World.block_lt_of_cell? w _ hx135_0)).trans hx135_0
              replace hx135_1 := (HB.out.cell (World.block_lt_of_cell? w _ hx135_1)).trans hx135_1
              replace hx135_2 := (HB.out.cell (World.block_lt_of_cell? w _ hx135_2)).trans hx135_2
              replace hx135_3 := (HB.out.cell (World.block_lt_of_cell? w _ hx135_3)).trans hx135_3
              replace p135 := eq_true p135
              replace q135 := eq_true q135
              go_upto_region 6 with (first | ((with_reducible refine gate_dst (N := 4) rfl ?_); refine box_event ?hg (N := 4) ?hd (cs := #[.int .i64 0, .string (⟨#[]⟩ : ByteArray), .int .i64 0, .int .i64 0]) (t := 110) ?hr ?_; (case hd => rfl); (case hg => rfl); (case hr => first | (go_simp; done) | (go_simp; rfl)); intro gb136 hg w7 hbox hb; have n0_ := Aside0.mk (below_step (by repeat (first | (with_reducible first | exact HB.out | apply below_alloc | apply pw_below_drewN | apply below_drew1) | exact HB.out)) hb); have n1_ := Aside0.mk (hbox); have n2_ := Aside0.mk ((by rw [hg]; exact (below_size (by repeat (first | (with_reducible first | exact HB.out | apply below_alloc | apply pw_below_drewN | apply below_drew1) | exact HB.out))) : w.heap.size ≤ gb136)); have n3_ := Aside0.mk ((by rw [hg]; exact (below_size (by repeat (first | (with_reducible first | exact HB.out | apply below_alloc | apply pw_below_drewN | apply below_drew1) | exact HB.out))) : w.heap.size ≤ gb136)); clear HB; have HB := n0_; have BK136 := n1_; have GW136 := n2_; have GE136 := n3_; clear n0_ n1_ n2_ n3_; clear hb hbox hg; have hcz8_0 : w7.cell? ⟨gb136, 0, none⟩ = some (.int .i64 0) := (blk_cell BK136.out 0).trans rfl; have hcz8_1 : w7.cell? ⟨gb136, 1, none⟩ = some (.string (⟨#[]⟩ : ByteArray)) := (blk_cell BK136.out 1).trans rfl; have hcz8_2 : w7.cell? ⟨gb136, 2, none⟩ = some (.int .i64 0) := (blk_cell BK136.out 2).trans rfl; have hcz8_3 : w7.cell? ⟨gb136, 3, none⟩ = some (.int .i64 0) := (blk_cell BK136.out 3).trans rfl; have hfz8_0 := blk_frozen BK136.out 0; have hfz8_1 := blk_frozen BK136.out 1; have hfz8_2 := blk_frozen BK136.out 2; have hfz8_3 := blk_frozen BK136.out 3))
              repeat (go_quiet (first | ((with_reducible refine gate_dst (N := 4) rfl ?_); refine box_event ?hg (N := 4) ?hd (cs := #[.int .i64 0, .string (⟨#[]⟩ : ByteArray), .int .i64 0, .int .i64 0]) (t := 110) ?hr ?_; (case hd => rfl); (case hg => rfl); (case hr => first | (go_simp; done) | (go_simp; rfl)); intro gb136 hg w7 hbox hb; have n0_ := Aside0.mk (below_step (by repeat (first | (with_reducible first | exact HB.out | apply below_alloc | apply pw_below_drewN | apply below_drew1) | exact HB.out)) hb); have n1_ := Aside0.mk (hbox); have n2_ := Aside0.mk ((by rw [hg]; exact (below_size (by repeat (first | (with_reducible first | exact HB.out | apply below_alloc | apply pw_below_drewN | apply below_drew1) | exact HB.out))) : w.heap.size ≤ gb136)); have n3_ := Aside0.mk ((by rw [hg]; exact (below_size (by repeat (first | (with_reducible first | exact HB.out | apply below_alloc | apply pw_below_drewN | apply below_drew1) | exact HB.out))) : w.heap.size ≤ gb136)); clear HB; have HB := n0_; have BK136 := n1_; have GW136 := n2_; have GE136 := n3_; clear n0_ n1_ n2_ n3_; clear hb hbox hg; have hcz8_0 : w7.cell? ⟨gb136, 0, none⟩ = some (.int .i64 0) := (blk_cell BK136.out 0).trans rfl; have hcz8_1 : w7.cell? ⟨gb136, 1, none⟩ = some (.string (⟨#[]⟩ : ByteArray)) := (blk_cell BK136.out 1).trans rfl; have hcz8_2 : w7.cell? ⟨gb136, 2, none⟩ = some (.int .i64 0) := (blk_cell BK136.out 2).trans rfl; have hcz8_3 : w7.cell? ⟨gb136, 3, none⟩ = some (.int .i64 0) := (blk_cell BK136.out 3).trans rfl; have hfz8_0 := blk_frozen BK136.out 0; have hfz8_1 := blk_frozen BK136.out 1; have hfz8_2 := blk_frozen BK136.out 2; have hfz8_3 := blk_frozen BK136.out 3)); go_upto_region 6 with (first | ((with_reducible refine gate_dst (N := 4) rfl ?_); refine box_event ?hg (N := 4) ?hd (cs := #[.int .i64 0, .string (⟨#[]⟩ : ByteArray), .int .i64 0, .int .i64 0]) (t := 110) ?hr ?_; (case hd => rfl); (case hg => rfl); (case hr => first | (go_simp; done) | (go_simp; rfl)); intro gb136 hg w7 hbox hb; have n0_ := Aside0.mk (below_step (by repeat (first | (with_reducible first | exact HB.out | apply below_alloc | apply pw_below_drewN | apply below_drew1) | exact HB.out)) hb); have n1_ := Aside0.mk (hbox); have n2_ := Aside0.mk ((by rw [hg]; exact (below_size (by repeat (first | (with_reducible first | exact HB.out | apply below_alloc | apply pw_below_drewN | apply below_drew1) | exact HB.out))) : w.heap.size ≤ gb136)); have n3_ := Aside0.mk ((by rw [hg]; exact (below_size (by repeat (first | (with_reducible first | exact HB.out | apply below_alloc | apply pw_below_drewN | apply below_drew1) | exact HB.out))) : w.heap.size ≤ gb136)); clear HB; have HB := n0_; have BK136 := n1_; have GW136 := n2_; have GE136 := n3_; clear n0_ n1_ n2_ n3_; clear hb hbox hg; have hcz8_0 : w7.cell? ⟨gb136, 0, none⟩ = some (.int .i64 0) := (blk_cell BK136.out 0).trans rfl; have hcz8_1 : w7.cell? ⟨gb136, 1, none⟩ = some (.string (⟨#[]⟩ : ByteArray)) := (blk_cell BK136.out 1).trans rfl; have hcz8_2 : w7.cell? ⟨gb136, 2, none⟩ = some (.int .i64 0) := (blk_cell BK136.out 2).trans rfl; have hcz8_3 : w7.cell? ⟨gb136, 3, none⟩ = some (.int .i64 0) := (blk_cell BK136.out 3).trans rfl; have hfz8_0 := blk_frozen BK136.out 0; have hfz8_1 := blk_frozen BK136.out 1; have hfz8_2 := blk_frozen BK136.out 2; have hfz8_3 := blk_frozen BK136.out 3)))
              (try simp only [Act.put, List.setIfInBounds_toArray, List.set_cons_zero, List.set_cons_succ])
              go_cut [35] (fun v35 wc => ∃ (kq : Nat) (x35_5 : Bool), v35 = .bool x35_5 ∧ Aside0 (impl_FeedValid.j1 kq l0 x10_1 l0 (l0.length : Int) x10_1 x35_5 ((rd_T110 l0 x10_1).f0) ((rd_T110 l0 x10_1).f1) ((rd_T110 l0 x10_1).f2) ((rd_T110 l0 x10_1).f3) = some r) ∧ Aside0 (kq ≤ k1) ∧ Aside0 (wc.heap[gb136]? = some (.cells #[.int .i64 ((rd_T110 l0 x10_1).f0), .string ((rd_T110 l0 x10_1).f1), .int .i64 ((rd_T110 l0 x10_1).f2), .int .i64 ((rd_T110 l0 x10_1).f3)] 110 (0, 0))) ∧ Aside0 (Below w.heap.size w wc))
              case first =>
                have H := HC6.out
                clear HC6
                by_cases c9 : ((rd_T110 l0 x10_1).f0) < 0
                · rw [if_pos c9] at H
                  have c9b0 : decide (((rd_T110 l0 x10_1).f0) < 0) = true := decide_eq_true c9
                  clear c9
                  (first | rw [c9b0] | (simp only [i64_w, i32_w]; rw [c9b0]) | skip)
                  have H' := Aside0.mk H
                  clear H
                  have hcz10_0 : w7.cell? ⟨gb136, 0, none⟩ = some (.int .i64 0) := (blk_cell BK136.out 0).trans rfl
                  have hcz10_1 : w7.cell? ⟨gb136, 1, none⟩ = some (.string (⟨#[]⟩ : ByteArray)) := (blk_cell BK136.out 1).trans rfl
                  have hcz10_2 : w7.cell? ⟨gb136, 2, none⟩ = some (.int .i64 0) := (blk_cell BK136.out 2).trans rfl
                  have hcz10_3 : w7.cell? ⟨gb136, 3, none⟩ = some (.int .i64 0) := (blk_cell BK136.out 3).trans rfl
                  have hfz10_0 := blk_frozen BK136.out 0
                  have hfz10_1 := blk_frozen BK136.out 1
                  have hfz10_2 := blk_frozen BK136.out 2
                  have hfz10_3 := blk_frozen BK136.out 3
                  go_wp2
                  repeat (go_quiet (fail); try go_wp2)
                  go_meet
                  case rel => exact ⟨_, (true), (by first | rfl | (simp; done) | (simp [*]; done) | (simp [bne_nil_, beq_nil_]; done)), H', ⟨by have := HK1.out; first | omega | exact Nat.le_refl _⟩, ⟨by (with_reducible repeat (first | refine blk_drewN ?_ _ | refine blk_drew ?_ | refine blk_alloc ?_ _)); refine blk_put (cs := #[.int .i64 ((rd_T110 l0 x10_1).f0), .string ((rd_T110 l0 x10_1).f1), .int .i64 ((rd_T110 l0 x10_1).f2), .int .i64 0]) ?_ 3 _ rfl; (with_reducible repeat (first | refine blk_drewN ?_ _ | refine blk_drew ?_ | refine blk_alloc ?_ _)); refine blk_put (cs := #[.int .i64 ((rd_T110 l0 x10_1).f0), .string ((rd_T110 l0 x10_1).f1), .int .i64 0, .int .i64 0]) ?_ 2 _ rfl; (with_reducible repeat (first | refine blk_drewN ?_ _ | refine blk_drew ?_ | refine blk_alloc ?_ _)); refine blk_put (cs := #[.int .i64 ((rd_T110 l0 x10_1).f0), .string (⟨#[]⟩ : ByteArray), .int .i64 0, .int .i64 0]) ?_ 1 _ rfl; (with_reducible repeat (first | refine blk_drewN ?_ _ | refine blk_drew ?_ | refine blk_alloc ?_ _)); refine blk_put (cs := #[.int .i64 0, .string (⟨#[]⟩ : ByteArray), .int .i64 0, .int .i64 0]) ?_ 0 _ rfl; (with_reducible repeat (first | refine blk_drewN ?_ _ | refine blk_drew ?_ | refine blk_alloc ?_ _)); exact BK136.out⟩, ⟨by repeat (first | (with_reducible first | exact HB.out | apply below_alloc | apply pw_below_drewN | apply below_drew1 | refine below_set ?_ GE136.out) | exact HB.out)⟩⟩
                · rw [if_neg c9] at H
                  have c9b0 : decide (((rd_T110 l0 x10_1).f0) < 0) = false := decide_eq_false c9
                  clear c9
                  (first | rw [c9b0] | (simp only [i64_w, i32_w]; rw [c9b0]) | skip)
                  by_cases c11 : ((rd_T110 l0 x10_1).f0) ≥ 24
                  · rw [if_pos c11] at H
                    have c11b0 : decide (24 ≤ ((rd_T110 l0 x10_1).f0)) = true := decide_eq_true c11
                    clear c11
                    have H' := Aside0.mk H
                    clear H
                    have hcz12_0 : w7.cell? ⟨gb136, 0, none⟩ = some (.int .i64 0) := (blk_cell BK136.out 0).trans rfl
                    have hcz12_1 : w7.cell? ⟨gb136, 1, none⟩ = some (.string (⟨#[]⟩ : ByteArray)) := (blk_cell BK136.out 1).trans rfl
                    have hcz12_2 : w7.cell? ⟨gb136, 2, none⟩ = some (.int .i64 0) := (blk_cell BK136.out 2).trans rfl
                    have hcz12_3 : w7.cell? ⟨gb136, 3, none⟩ = some (.int .i64 0) := (blk_cell BK136.out 3).trans rfl
                    have hfz12_0 := blk_frozen BK136.out 0
                    have hfz12_1 := blk_frozen BK136.out 1
                    have hfz12_2 := blk_frozen BK136.out 2
                    have hfz12_3 := blk_frozen BK136.out 3
                    go_wp2
                    repeat (go_quiet (fail); try go_wp2)
                    go_meet
                    case rel => exact ⟨_, (true), (by first | rfl | (simp; done) | (simp [*]; done) | (simp [bne_nil_, beq_nil_]; done)), H', ⟨by have := HK1.out; first | omega | exact Nat.le_refl _⟩, ⟨by (with_reducible repeat (first | refine blk_drewN ?_ _ | refine blk_drew ?_ | refine blk_alloc ?_ _)); refine blk_put (cs := #[.int .i64 ((rd_T110 l0 x10_1).f0), .string ((rd_T110 l0 x10_1).f1), .int .i64 ((rd_T110 l0 x10_1).f2), .int .i64 0]) ?_ 3 _ rfl; (with_reducible repeat (first | refine blk_drewN ?_ _ | refine blk_drew ?_ | refine blk_alloc ?_ _)); refine blk_put (cs := #[.int .i64 ((rd_T110 l0 x10_1).f0), .string ((rd_T110 l0 x10_1).f1), .int .i64 0, .int .i64 0]) ?_ 2 _ rfl; (with_reducible repeat (first | refine blk_drewN ?_ _ | refine blk_drew ?_ | refine blk_alloc ?_ _)); refine blk_put (cs := #[.int .i64 ((rd_T110 l0 x10_1).f0), .string (⟨#[]⟩ : ByteArray), .int .i64 0, .int .i64 0]) ?_ 1 _ rfl; (with_reducible repeat (first | refine blk_drewN ?_ _ | refine blk_drew ?_ | refine blk_alloc ?_ _)); refine blk_put (cs := #[.int .i64 0, .string (⟨#[]⟩ : ByteArray), .int .i64 0, .int .i64 0]) ?_ 0 _ rfl; (with_reducible repeat (first | refine blk_drewN ?_ _ | refine blk_drew ?_ | refine blk_alloc ?_ _)); exact BK136.out⟩, ⟨by repeat (first | (with_reducible first | exact HB.out | apply below_alloc | apply pw_below_drewN | apply below_drew1 | refine below_set ?_ GE136.out) | exact HB.out)⟩⟩
                  · rw [if_neg c11] at H
                    have c11b0 : decide (24 ≤ ((rd_T110 l0 x10_1).f0)) = false := decide_eq_false c11
                    clear c11
                    replace H := Option.bind_eq_some_iff.mp H
                    obtain ⟨t137, A130, H⟩ := H
                    replace H : (if t137 = true then (impl_FeedValid.j1 k1 l0 x10_1 l0 (l0.length : Int) x10_1 (((rd_T110 l0 x10_1).f2) == ((rd_T110 l0 x10_1).f3)) ((rd_T110 l0 x10_1).f0) ((rd_T110 l0 x10_1).f1) ((rd_T110 l0 x10_1).f2) ((rd_T110 l0 x10_1).f3)) else (impl_FeedValid.j1 k1 l0 x10_1 l0 (l0.length : Int) x10_1 true ((rd_T110 l0 x10_1).f0) ((rd_T110 l0 x10_1).f1) ((rd_T110 l0 x10_1).f2) ((rd_T110 l0 x10_1).f3))) = some r := H
                    have A13 := Aside0.mk A130
                    clear A130
                    by_cases c14 : t137 = true
                    · subst c14
                      have H1 : (impl_FeedValid.j1 k1 l0 x10_1 l0 (l0.length : Int) x10_1 (((rd_T110 l0 x10_1).f2) == ((rd_T110 l0 x10_1).f3)) ((rd_T110 l0 x10_1).f0) ((rd_T110 l0 x10_1).f1) ((rd_T110 l0 x10_1).f2) ((rd_T110 l0 x10_1).f3)) = some r := by rw [if_pos rfl] at H; exact H
                      clear H
                      have H := H1
                      clear H1
                      have H' := Aside0.mk H
                      clear H
                      have hcz15_0 : w7.cell? ⟨gb136, 0, none⟩ = some (.int .i64 0) := (blk_cell BK136.out 0).trans rfl
                      have hcz15_1 : w7.cell? ⟨gb136, 1, none⟩ = some (.string (⟨#[]⟩ : ByteArray)) := (blk_cell BK136.out 1).trans rfl
                      have hcz15_2 : w7.cell? ⟨gb136, 2, none⟩ = some (.int .i64 0) := (blk_cell BK136.out 2).trans rfl
                      have hcz15_3 : w7.cell? ⟨gb136, 3, none⟩ = some (.int .i64 0) := (blk_cell BK136.out 3).trans rfl
                      have hfz15_0 := blk_frozen BK136.out 0
                      have hfz15_1 := blk_frozen BK136.out 1
                      have hfz15_2 := blk_frozen BK136.out 2
                      have hfz15_3 := blk_frozen BK136.out 3
                      go_wp2_with (first | (go_at_call 67; (with_reducible refine (impl_KeyValid.calls k1 ((rd_T110 l0 x10_1).f1) true _ A13.out).mono ?_); rintro e w' ⟨rfl, ⟨nd, rfl⟩⟩; (try first | exact ⟨rfl, _, World.drewN_drewN _ _ _⟩ | exact ⟨rfl, _, Eq.trans (World.drewN_drewN _ _ _) (congrArg (World.drewN _) (Nat.add_assoc _ _ _))⟩)))
                      repeat (go_quiet (first | (go_at_call 67; (with_reducible refine (impl_KeyValid.calls k1 ((rd_T110 l0 x10_1).f1) true _ A13.out).mono ?_); rintro e w' ⟨rfl, ⟨nd, rfl⟩⟩; (try first | exact ⟨rfl, _, World.drewN_drewN _ _ _⟩ | exact ⟨rfl, _, Eq.trans (World.drewN_drewN _ _ _) (congrArg (World.drewN _) (Nat.add_assoc _ _ _))⟩))); try go_wp2_with (first | (go_at_call 67; (with_reducible refine (impl_KeyValid.calls k1 ((rd_T110 l0 x10_1).f1) true _ A13.out).mono ?_); rintro e w' ⟨rfl, ⟨nd, rfl⟩⟩; (try first | exact ⟨rfl, _, World.drewN_drewN _ _ _⟩ | exact ⟨rfl, _, Eq.trans (World.drewN_drewN _ _ _) (congrArg (World.drewN _) (Nat.add_assoc _ _ _))⟩))))
                      go_meet
                      case rel => exact ⟨_, ((((rd_T110 l0 x10_1).f2) == ((rd_T110 l0 x10_1).f3))), (by first | rfl | (simp; done) | (simp [*]; done) | (simp [bne_nil_, beq_nil_]; done)), H', ⟨by have := HK1.out; first | omega | exact Nat.le_refl _⟩, ⟨by (with_reducible repeat (first | refine blk_drewN ?_ _ | refine blk_drew ?_ | refine blk_alloc ?_ _)); refine blk_put (cs := #[.int .i64 ((rd_T110 l0 x10_1).f0), .string ((rd_T110 l0 x10_1).f1), .int .i64 ((rd_T110 l0 x10_1).f2), .int .i64 0]) ?_ 3 _ rfl; (with_reducible repeat (first | refine blk_drewN ?_ _ | refine blk_drew ?_ | refine blk_alloc ?_ _)); refine blk_put (cs := #[.int .i64 ((rd_T110 l0 x10_1).f0), .string ((rd_T110 l0 x10_1).f1), .int .i64 0, .int .i64 0]) ?_ 2 _ rfl; (with_reducible repeat (first | refine blk_drewN ?_ _ | refine blk_drew ?_ | refine blk_alloc ?_ _)); refine blk_put (cs := #[.int .i64 ((rd_T110 l0 x10_1).f0), .string (⟨#[]⟩ : ByteArray), .int .i64 0, .int .i64 0]) ?_ 1 _ rfl; (with_reducible repeat (first | refine blk_drewN ?_ _ | refine blk_drew ?_ | refine blk_alloc ?_ _)); refine blk_put (cs := #[.int .i64 0, .string (⟨#[]⟩ : ByteArray), .int .i64 0, .int .i64 0]) ?_ 0 _ rfl; (with_reducible repeat (first | refine blk_drewN ?_ _ | refine blk_drew ?_ | refine blk_alloc ?_ _)); exact BK136.out⟩, ⟨by repeat (first | (with_reducible first | exact HB.out | apply below_alloc | apply pw_below_drewN | apply below_drew1 | refine below_set ?_ GE136.out) | exact HB.out)⟩⟩
                    · replace c14 := Bool.eq_false_iff.mpr c14
                      subst c14
                      have H1 : (impl_FeedValid.j1 k1 l0 x10_1 l0 (l0.length : Int) x10_1 true ((rd_T110 l0 x10_1).f0) ((rd_T110 l0 x10_1).f1) ((rd_T110 l0 x10_1).f2) ((rd_T110 l0 x10_1).f3)) = some r := by rw [if_neg (show ¬ (false = true) by decide)] at H; exact H
                      clear H
                      have H := H1
                      clear H1
                      have H' := Aside0.mk H
                      clear H
                      have hcz16_0 : w7.cell? ⟨gb136, 0, none⟩ = some (.int .i64 0) := (blk_cell BK136.out 0).trans rfl
                      have hcz16_1 : w7.cell? ⟨gb136, 1, none⟩ = some (.string (⟨#[]⟩ : ByteArray)) := (blk_cell BK136.out 1).trans rfl
                      have hcz16_2 : w7.cell? ⟨gb136, 2, none⟩ = some (.int .i64 0) := (blk_cell BK136.out 2).trans rfl
                      have hcz16_3 : w7.cell? ⟨gb136, 3, none⟩ = some (.int .i64 0) := (blk_cell BK136.out 3).trans rfl
                      have hfz16_0 := blk_frozen BK136.out 0
                      have hfz16_1 := blk_frozen BK136.out 1
                      have hfz16_2 := blk_frozen BK136.out 2
                      have hfz16_3 := blk_frozen BK136.out 3
                      go_wp2_with (first | (go_at_call 67; (with_reducible refine (impl_KeyValid.calls k1 ((rd_T110 l0 x10_1).f1) false _ A13.out).mono ?_); rintro e w' ⟨rfl, ⟨nd, rfl⟩⟩; (try first | exact ⟨rfl, _, World.drewN_drewN _ _ _⟩ | exact ⟨rfl, _, Eq.trans (World.drewN_drewN _ _ _) (congrArg (World.drewN _) (Nat.add_assoc _ _ _))⟩)))
                      repeat (go_quiet (first | (go_at_call 67; (with_reducible refine (impl_KeyValid.calls k1 ((rd_T110 l0 x10_1).f1) false _ A13.out).mono ?_); rintro e w' ⟨rfl, ⟨nd, rfl⟩⟩; (try first | exact ⟨rfl, _, World.drewN_drewN _ _ _⟩ | exact ⟨rfl, _, Eq.trans (World.drewN_drewN _ _ _) (congrArg (World.drewN _) (Nat.add_assoc _ _ _))⟩))); try go_wp2_with (first | (go_at_call 67; (with_reducible refine (impl_KeyValid.calls k1 ((rd_T110 l0 x10_1).f1) false _ A13.out).mono ?_); rintro e w' ⟨rfl, ⟨nd, rfl⟩⟩; (try first | exact ⟨rfl, _, World.drewN_drewN _ _ _⟩ | exact ⟨rfl, _, Eq.trans (World.drewN_drewN _ _ _) (congrArg (World.drewN _) (Nat.add_assoc _ _ _))⟩))))
                      go_meet
                      case rel => exact ⟨_, (true), (by first | rfl | (simp; done) | (simp [*]; done) | (simp [bne_nil_, beq_nil_]; done)), H', ⟨by have := HK1.out; first | omega | exact Nat.le_refl _⟩, ⟨by (with_reducible repeat (first | refine blk_drewN ?_ _ | refine blk_drew ?_ | refine blk_alloc ?_ _)); refine blk_put (cs := #[.int .i64 ((rd_T110 l0 x10_1).f0), .string ((rd_T110 l0 x10_1).f1), .int .i64 ((rd_T110 l0 x10_1).f2), .int .i64 0]) ?_ 3 _ rfl; (with_reducible repeat (first | refine blk_drewN ?_ _ | refine blk_drew ?_ | refine blk_alloc ?_ _)); refine blk_put (cs := #[.int .i64 ((rd_T110 l0 x10_1).f0), .string ((rd_T110 l0 x10_1).f1), .int .i64 0, .int .i64 0]) ?_ 2 _ rfl; (with_reducible repeat (first | refine blk_drewN ?_ _ | refine blk_drew ?_ | refine blk_alloc ?_ _)); refine blk_put (cs := #[.int .i64 ((rd_T110 l0 x10_1).f0), .string (⟨#[]⟩ : ByteArray), .int .i64 0, .int .i64 0]) ?_ 1 _ rfl; (with_reducible repeat (first | refine blk_drewN ?_ _ | refine blk_drew ?_ | refine blk_alloc ?_ _)); refine blk_put (cs := #[.int .i64 0, .string (⟨#[]⟩ : ByteArray), .int .i64 0, .int .i64 0]) ?_ 0 _ rfl; (with_reducible repeat (first | refine blk_drewN ?_ _ | refine blk_drew ?_ | refine blk_alloc ?_ _)); exact BK136.out⟩, ⟨by repeat (first | (with_reducible first | exact HB.out | apply below_alloc | apply pw_below_drewN | apply below_drew1 | refine below_set ?_ GE136.out) | exact HB.out)⟩⟩
              case rest =>
                clear HC6
                try clear c1
                try clear p1
                try clear q1
                try clear hx1
                try clear c2
                try clear c2b0
                try clear c2b1
                try clear p2
                try clear c3
                try clear c3b0
                try clear c4
                try clear c4b0
                try clear c5
                try clear c5b0
                try clear p6
                try clear c8
                try clear c9
                try clear c9b0
                try clear c11
                try clear c11b0
                try clear p13
                try clear q13
                try clear hx13
                try clear c14
                try clear hcz10_0
                try clear hcz10_1
                try clear hcz10_2
                try clear hcz10_3
                try clear hcz12_0
                try clear hcz12_1
                try clear hcz12_2
                try clear hcz12_3
                try clear hcz15_0
                try clear hcz15_1
                try clear hcz15_2
                try clear hcz15_3
                try clear hcz16_0
                try clear hcz16_1
                try clear hcz16_2
                try clear hcz16_3
                try clear hcz8_0
                try clear hcz8_1
                try clear hcz8_2
                try clear hcz8_3
                try clear hfz10_0
                try clear hfz10_1
                try clear hfz10_2
                try clear hfz10_3
                try clear hfz12_0
                try clear hfz12_1
                try clear hfz12_2
                try clear hfz12_3
                try clear hfz15_0
                try clear hfz15_1
                try clear hfz15_2
                try clear hfz15_3
                try clear hfz16_0
                try clear hfz16_1
                try clear hfz16_2
                try clear hfz16_3
                try clear hfz8_0
                try clear hfz8_1
                try clear hfz8_2
                try clear hfz8_3
                try clear hx135_0
                try clear hx135_1
                try clear hx135_2
                try clear hx135_3
                try clear p135
                try clear p2
                try clear q135
                obtain ⟨kq, x35_5, rfl, HA, HJ5, BK136, HB⟩ := hcut
                cases kq with
                | zero => exact absurd HA.out (by simp [impl_FeedValid.j1])
                | succ kj5 =>
                  have H := HA.out
                  clear HA
                  simp only [impl_FeedValid.j1] at H
                  by_cases c17 : x35_5 = true
                  · subst c17
                    have H1 : (some false) = some r := by rw [if_pos rfl] at H; exact H
                    clear H
                    have H := H1
                    clear H1
                    obtain rfl := Option.some.inj H
                    go_wp2
                    repeat (go_quiet (fail); try go_wp2)
                    go_ret
                    exact ⟨by first | rfl | (simp [errW_none, errW_some] <;> rfl) | (simp [*, errW_none, errW_some] <;> rfl) | (simp only [IntKind.wrap_u8, show ∀ n_ : Int, wrap64 (n_ % 256) = n_ % 256 from fun n_ => by unfold wrap64; omega]; rfl), by repeat (first | (with_reducible first | exact HB.out | apply below_alloc | apply pw_below_drewN | apply below_drew1 | refine below_set ?_ GE136.out) | exact HB.out)⟩
                  · replace c17 := Bool.eq_false_iff.mpr c17
                    subst c17
                    have H1 : (if ((rd_T110 l0 x10_1).f2) = (-1) then (if ((rd_T110 l0 x10_1).f3) = (-1) then (impl_FeedValid.j2 kj5 l0 x10_1 l0 (l0.length : Int) x10_1 false ((rd_T110 l0 x10_1).f0) ((rd_T110 l0 x10_1).f1) ((rd_T110 l0 x10_1).f2) ((rd_T110 l0 x10_1).f3)) else ((impl_valueValid.f ((rd_T110 l0 x10_1).f3)).bind fun t138 => (impl_FeedValid.j2 kj5 l0 x10_1 l0 (l0.length : Int) x10_1 (!t138) ((rd_T110 l0 x10_1).f0) ((rd_T110 l0 x10_1).f1) ((rd_T110 l0 x10_1).f2) ((rd_T110 l0 x10_1).f3)))) else ((impl_valueValid.f ((rd_T110 l0 x10_1).f2)).bind fun t139 => (if t139 = true then (if ((rd_T110 l0 x10_1).f3) = (-1) then (impl_FeedValid.j2 kj5 l0 x10_1 l0 (l0.length : Int) x10_1 false ((rd_T110 l0 x10_1).f0) ((rd_T110 l0 x10_1).f1) ((rd_T110 l0 x10_1).f2) ((rd_T110 l0 x10_1).f3)) else ((impl_valueValid.f ((rd_T110 l0 x10_1).f3)).bind fun t140 => (impl_FeedValid.j2 kj5 l0 x10_1 l0 (l0.length : Int) x10_1 (!t140) ((rd_T110 l0 x10_1).f0) ((rd_T110 l0 x10_1).f1) ((rd_T110 l0 x10_1).f2) ((rd_T110 l0 x10_1).f3)))) else (impl_FeedValid.j2 kj5 l0 x10_1 l0 (l0.length : Int) x10_1 true ((rd_T110 l0 x10_1).f0) ((rd_T110 l0 x10_1).f1) ((rd_T110 l0 x10_1).f2) ((rd_T110 l0 x10_1).f3))))) = some r := by rw [if_neg (show ¬ (false = true) by decide)] at H; exact H
                    clear H
                    have H := H1
                    clear H1
                    have HC18 := Aside0.mk H
                    clear H
                    go_upto_region 8 with (fail)
                    repeat (go_quiet (fail); go_upto_region 8 with (fail))
                    go_cut [55] (fun v55 wc => ∃ (kq : Nat) (x55_17 : Bool), v55 = .bool x55_17 ∧ Aside0 (impl_FeedValid.j2 kq l0 x10_1 l0 (l0.length : Int) x10_1 x55_17 ((rd_T110 l0 x10_1).f0) ((rd_T110 l0 x10_1).f1) ((rd_T110 l0 x10_1).f2) ((rd_T110 l0 x10_1).f3) = some r) ∧ Aside0 (kq ≤ kj5) ∧ Aside0 (wc.heap[gb136]? = some (.cells #[.int .i64 ((rd_T110 l0 x10_1).f0), .string ((rd_T110 l0 x10_1).f1), .int .i64 ((rd_T110 l0 x10_1).f2), .int .i64 ((rd_T110 l0 x10_1).f3)] 110 (0, 0))) ∧ Aside0 (Below w.heap.size w wc))
                    case first =>
                      have H := HC18.out
                      clear HC18
                      by_cases c19 : ((rd_T110 l0 x10_1).f2) = (-1)
                      · rw [if_pos c19] at H
                        have c19b0 : (((rd_T110 l0 x10_1).f2) == (-1)) = true := beq_iff_eq.mpr c19
                        have c19b1 : (((rd_T110 l0 x10_1).f2) != (-1)) = false := bne_eq_false_iff_eq.mpr c19
                        clear c19
                        (first | rw [c19b0] | (simp only [i64_w, i32_w]; rw [c19b0]) | skip)
                        by_cases c20 : ((rd_T110 l0 x10_1).f3) = (-1)
                        · rw [if_pos c20] at H
                          have c20b0 : (((rd_T110 l0 x10_1).f3) == (-1)) = true := beq_iff_eq.mpr c20
                          have c20b1 : (((rd_T110 l0 x10_1).f3) != (-1)) = false := bne_eq_false_iff_eq.mpr c20
                          clear c20
                          have H' := Aside0.mk H
                          clear H
                          have hcz21_0 : wc.cell? ⟨gb136, 0, none⟩ = some (.int .i64 ((rd_T110 l0 x10_1).f0)) := (blk_cell BK136.out 0).trans rfl
                          have hcz21_1 : wc.cell? ⟨gb136, 1, none⟩ = some (.string ((rd_T110 l0 x10_1).f1)) := (blk_cell BK136.out 1).trans rfl
                          have hcz21_2 : wc.cell? ⟨gb136, 2, none⟩ = some (.int .i64 ((rd_T110 l0 x10_1).f2)) := (blk_cell BK136.out 2).trans rfl
                          have hcz21_3 : wc.cell? ⟨gb136, 3, none⟩ = some (.int .i64 ((rd_T110 l0 x10_1).f3)) := (blk_cell BK136.out 3).trans rfl
                          have hfz21_0 := blk_frozen BK136.out 0
                          have hfz21_1 := blk_frozen BK136.out 1
                          have hfz21_2 := blk_frozen BK136.out 2
                          have hfz21_3 := blk_frozen BK136.out 3
                          go_wp2
                          repeat (go_quiet (fail); try go_wp2)
                          go_meet
                          case rel => exact ⟨_, (false), (by first | rfl | (simp; done) | (simp [*]; done) | (simp [bne_nil_, beq_nil_]; done)), H', ⟨by have := HK1.out; have := HJ5.out; first | omega | exact Nat.le_refl _⟩, ⟨by (with_reducible repeat (first | refine blk_drewN ?_ _ | refine blk_drew ?_ | refine blk_alloc ?_ _)); exact BK136.out⟩, ⟨by repeat (first | (with_reducible first | exact HB.out | apply below_alloc | apply pw_below_drewN | apply below_drew1 | refine below_set ?_ GE136.out) | exact HB.out)⟩⟩
                        · rw [if_neg c20] at H
                          have c20b0 : (((rd_T110 l0 x10_1).f3) == (-1)) = false := beq_eq_false_iff_ne.mpr c20
                          have c20b1 : (((rd_T110 l0 x10_1).f3) != (-1)) = true := bne_iff_ne.mpr c20
                          replace H := Option.bind_eq_some_iff.mp H
                          obtain ⟨t138, A220, H⟩ := H
                          replace H : (impl_FeedValid.j2 kj5 l0 x10_1 l0 (l0.length : Int) x10_1 (!t138) ((rd_T110 l0 x10_1).f0) ((rd_T110 l0 x10_1).f1) ((rd_T110 l0 x10_1).f2) ((rd_T110 l0 x10_1).f3)) = some r := H
                          have A22 := Aside0.mk A220
                          clear A220
                          have H' := Aside0.mk H
                          clear H
                          have hcz23_0 : wc.cell? ⟨gb136, 0, none⟩ = some (.int .i64 ((rd_T110 l0 x10_1).f0)) := (blk_cell BK136.out 0).trans rfl
                          have hcz23_1 : wc.cell? ⟨gb136, 1, none⟩ = some (.string ((rd_T110 l0 x10_1).f1)) := (blk_cell BK136.out 1).trans rfl
                          have hcz23_2 : wc.cell? ⟨gb136, 2, none⟩ = some (.int .i64 ((rd_T110 l0 x10_1).f2)) := (blk_cell BK136.out 2).trans rfl
                          have hcz23_3 : wc.cell? ⟨gb136, 3, none⟩ = some (.int .i64 ((rd_T110 l0 x10_1).f3)) := (blk_cell BK136.out 3).trans rfl
                          have hfz23_0 := blk_frozen BK136.out 0
                          have hfz23_1 := blk_frozen BK136.out 1
                          have hfz23_2 := blk_frozen BK136.out 2
                          have hfz23_3 := blk_frozen BK136.out 3
                          go_wp2_with (first | (go_at_call 68; (with_reducible refine (impl_valueValid.calls ((rd_T110 l0 x10_1).f3) t138 _ A22.out).mono ?_); rintro e w' ⟨rfl, ⟨nd, rfl⟩⟩; (try first | exact ⟨rfl, _, World.drewN_drewN _ _ _⟩ | exact ⟨rfl, _, Eq.trans (World.drewN_drewN _ _ _) (congrArg (World.drewN _) (Nat.add_assoc _ _ _))⟩)))
                          repeat (go_quiet (first | (go_at_call 68; (with_reducible refine (impl_valueValid.calls ((rd_T110 l0 x10_1).f3) t138 _ A22.out).mono ?_); rintro e w' ⟨rfl, ⟨nd, rfl⟩⟩; (try first | exact ⟨rfl, _, World.drewN_drewN _ _ _⟩ | exact ⟨rfl, _, Eq.trans (World.drewN_drewN _ _ _) (congrArg (World.drewN _) (Nat.add_assoc _ _ _))⟩))); try go_wp2_with (first | (go_at_call 68; (with_reducible refine (impl_valueValid.calls ((rd_T110 l0 x10_1).f3) t138 _ A22.out).mono ?_); rintro e w' ⟨rfl, ⟨nd, rfl⟩⟩; (try first | exact ⟨rfl, _, World.drewN_drewN _ _ _⟩ | exact ⟨rfl, _, Eq.trans (World.drewN_drewN _ _ _) (congrArg (World.drewN _) (Nat.add_assoc _ _ _))⟩))))
                          go_meet
                          case rel => exact ⟨_, (!t138), (by first | rfl | (simp; done) | (simp [*]; done) | (simp [bne_nil_, beq_nil_]; done)), H', ⟨by have := HK1.out; have := HJ5.out; first | omega | exact Nat.le_refl _⟩, ⟨by (with_reducible repeat (first | refine blk_drewN ?_ _ | refine blk_drew ?_ | refine blk_alloc ?_ _)); exact BK136.out⟩, ⟨by repeat (first | (with_reducible first | exact HB.out | apply below_alloc | apply pw_below_drewN | apply below_drew1 | refine below_set ?_ GE136.out) | exact HB.out)⟩⟩
                      · rw [if_neg c19] at H
                        have c19b0 : (((rd_T110 l0 x10_1).f2) == (-1)) = false := beq_eq_false_iff_ne.mpr c19
                        have c19b1 : (((rd_T110 l0 x10_1).f2) != (-1)) = true := bne_iff_ne.mpr c19
                        (first | rw [c19b0] | (simp only [i64_w, i32_w]; rw [c19b0]) | skip)
                        replace H := Option.bind_eq_some_iff.mp H
                        obtain ⟨t139, A240, H⟩ := H
                        replace H : (if t139 = true then (if ((rd_T110 l0 x10_1).f3) = (-1) then (impl_FeedValid.j2 kj5 l0 x10_1 l0 (l0.length : Int) x10_1 false ((rd_T110 l0 x10_1).f0) ((rd_T110 l0 x10_1).f1) ((rd_T110 l0 x10_1).f2) ((rd_T110 l0 x10_1).f3)) else ((impl_valueValid.f ((rd_T110 l0 x10_1).f3)).bind fun t140 => (impl_FeedValid.j2 kj5 l0 x10_1 l0 (l0.length : Int) x10_1 (!t140) ((rd_T110 l0 x10_1).f0) ((rd_T110 l0 x10_1).f1) ((rd_T110 l0 x10_1).f2) ((rd_T110 l0 x10_1).f3)))) else (impl_FeedValid.j2 kj5 l0 x10_1 l0 (l0.length : Int) x10_1 true ((rd_T110 l0 x10_1).f0) ((rd_T110 l0 x10_1).f1) ((rd_T110 l0 x10_1).f2) ((rd_T110 l0 x10_1).f3))) = some r := H
                        have A24 := Aside0.mk A240
                        clear A240
                        by_cases c25 : t139 = true
                        · subst c25
                          have H1 : (if ((rd_T110 l0 x10_1).f3) = (-1) then (impl_FeedValid.j2 kj5 l0 x10_1 l0 (l0.length : Int) x10_1 false ((rd_T110 l0 x10_1).f0) ((rd_T110 l0 x10_1).f1) ((rd_T110 l0 x10_1).f2) ((rd_T110 l0 x10_1).f3)) else ((impl_valueValid.f ((rd_T110 l0 x10_1).f3)).bind fun t140 => (impl_FeedValid.j2 kj5 l0 x10_1 l0 (l0.length : Int) x10_1 (!t140) ((rd_T110 l0 x10_1).f0) ((rd_T110 l0 x10_1).f1) ((rd_T110 l0 x10_1).f2) ((rd_T110 l0 x10_1).f3)))) = some r := by rw [if_pos rfl] at H; exact H
                          clear H
                          have H := H1
                          clear H1
                          by_cases c26 : ((rd_T110 l0 x10_1).f3) = (-1)
                          · rw [if_pos c26] at H
                            have c26b0 : (((rd_T110 l0 x10_1).f3) == (-1)) = true := beq_iff_eq.mpr c26
                            have c26b1 : (((rd_T110 l0 x10_1).f3) != (-1)) = false := bne_eq_false_iff_eq.mpr c26
                            clear c26
                            have H' := Aside0.mk H
                            clear H
                            have hcz27_0 : wc.cell? ⟨gb136, 0, none⟩ = some (.int .i64 ((rd_T110 l0 x10_1).f0)) := (blk_cell BK136.out 0).trans rfl
                            have hcz27_1 : wc.cell? ⟨gb136, 1, none⟩ = some (.string ((rd_T110 l0 x10_1).f1)) := (blk_cell BK136.out 1).trans rfl
                            have hcz27_2 : wc.cell? ⟨gb136, 2, none⟩ = some (.int .i64 ((rd_T110 l0 x10_1).f2)) := (blk_cell BK136.out 2).trans rfl
                            have hcz27_3 : wc.cell? ⟨gb136, 3, none⟩ = some (.int .i64 ((rd_T110 l0 x10_1).f3)) := (blk_cell BK136.out 3).trans rfl
                            have hfz27_0 := blk_frozen BK136.out 0
                            have hfz27_1 := blk_frozen BK136.out 1
                            have hfz27_2 := blk_frozen BK136.out 2
                            have hfz27_3 := blk_frozen BK136.out 3
                            go_wp2_with (first | (go_at_call 68; (with_reducible refine (impl_valueValid.calls ((rd_T110 l0 x10_1).f2) true _ A24.out).mono ?_); rintro e w' ⟨rfl, ⟨nd, rfl⟩⟩; (try first | exact ⟨rfl, _, World.drewN_drewN _ _ _⟩ | exact ⟨rfl, _, Eq.trans (World.drewN_drewN _ _ _) (congrArg (World.drewN _) (Nat.add_assoc _ _ _))⟩)))
                            repeat (go_quiet (first | (go_at_call 68; (with_reducible refine (impl_valueValid.calls ((rd_T110 l0 x10_1).f2) true _ A24.out).mono ?_); rintro e w' ⟨rfl, ⟨nd, rfl⟩⟩; (try first | exact ⟨rfl, _, World.drewN_drewN _ _ _⟩ | exact ⟨rfl, _, Eq.trans (World.drewN_drewN _ _ _) (congrArg (World.drewN _) (Nat.add_assoc _ _ _))⟩))); try go_wp2_with (first | (go_at_call 68; (with_reducible refine (impl_valueValid.calls ((rd_T110 l0 x10_1).f2) true _ A24.out).mono ?_); rintro e w' ⟨rfl, ⟨nd, rfl⟩⟩; (try first | exact ⟨rfl, _, World.drewN_drewN _ _ _⟩ | exact ⟨rfl, _, Eq.trans (World.drewN_drewN _ _ _) (congrArg (World.drewN _) (Nat.add_assoc _ _ _))⟩))))
                            go_meet
                            case rel => exact ⟨_, (false), (by first | rfl | (simp; done) | (simp [*]; done) | (simp [bne_nil_, beq_nil_]; done)), H', ⟨by have := HK1.out; have := HJ5.out; first | omega | exact Nat.le_refl _⟩, ⟨by (with_reducible repeat (first | refine blk_drewN ?_ _ | refine blk_drew ?_ | refine blk_alloc ?_ _)); exact BK136.out⟩, ⟨by repeat (first | (with_reducible first | exact HB.out | apply below_alloc | apply pw_below_drewN | apply below_drew1 | refine below_set ?_ GE136.out) | exact HB.out)⟩⟩
                          · rw [if_neg c26] at H
                            have c26b0 : (((rd_T110 l0 x10_1).f3) == (-1)) = false := beq_eq_false_iff_ne.mpr c26
                            have c26b1 : (((rd_T110 l0 x10_1).f3) != (-1)) = true := bne_iff_ne.mpr c26
                            replace H := Option.bind_eq_some_iff.mp H
                            obtain ⟨t140, A280, H⟩ := H
                            replace H : (impl_FeedValid.j2 kj5 l0 x10_1 l0 (l0.length : Int) x10_1 (!t140) ((rd_T110 l0 x10_1).f0) ((rd_T110 l0 x10_1).f1) ((rd_T110 l0 x10_1).f2) ((rd_T110 l0 x10_1).f3)) = some r := H
                            have A28 := Aside0.mk A280
                            clear A280
                            have H' := Aside0.mk H
                            clear H
                            have hcz29_0 : wc.cell? ⟨gb136, 0, none⟩ = some (.int .i64 ((rd_T110 l0 x10_1).f0)) := (blk_cell BK136.out 0).trans rfl
                            have hcz29_1 : wc.cell? ⟨gb136, 1, none⟩ = some (.string ((rd_T110 l0 x10_1).f1)) := (blk_cell BK136.out 1).trans rfl
                            have hcz29_2 : wc.cell? ⟨gb136, 2, none⟩ = some (.int .i64 ((rd_T110 l0 x10_1).f2)) := (blk_cell BK136.out 2).trans rfl
                            have hcz29_3 : wc.cell? ⟨gb136, 3, none⟩ = some (.int .i64 ((rd_T110 l0 x10_1).f3)) := (blk_cell BK136.out 3).trans rfl
                            have hfz29_0 := blk_frozen BK136.out 0
                            have hfz29_1 := blk_frozen BK136.out 1
                            have hfz29_2 := blk_frozen BK136.out 2
                            have hfz29_3 := blk_frozen BK136.out 3
                            go_wp2_with (first | (go_at_call 68; (with_reducible refine (impl_valueValid.calls ((rd_T110 l0 x10_1).f2) true _ A24.out).mono ?_); rintro e w' ⟨rfl, ⟨nd, rfl⟩⟩; (try first | exact ⟨rfl, _, World.drewN_drewN _ _ _⟩ | exact ⟨rfl, _, Eq.trans (World.drewN_drewN _ _ _) (congrArg (World.drewN _) (Nat.add_assoc _ _ _))⟩)) | (go_at_call 68; (with_reducible refine (impl_valueValid.calls ((rd_T110 l0 x10_1).f3) t140 _ A28.out).mono ?_); rintro e w' ⟨rfl, ⟨nd, rfl⟩⟩; (try first | exact ⟨rfl, _, World.drewN_drewN _ _ _⟩ | exact ⟨rfl, _, Eq.trans (World.drewN_drewN _ _ _) (congrArg (World.drewN _) (Nat.add_assoc _ _ _))⟩)))
                            repeat (go_quiet (first | (go_at_call 68; (with_reducible refine (impl_valueValid.calls ((rd_T110 l0 x10_1).f2) true _ A24.out).mono ?_); rintro e w' ⟨rfl, ⟨nd, rfl⟩⟩; (try first | exact ⟨rfl, _, World.drewN_drewN _ _ _⟩ | exact ⟨rfl, _, Eq.trans (World.drewN_drewN _ _ _) (congrArg (World.drewN _) (Nat.add_assoc _ _ _))⟩)) | (go_at_call 68; (with_reducible refine (impl_valueValid.calls ((rd_T110 l0 x10_1).f3) t140 _ A28.out).mono ?_); rintro e w' ⟨rfl, ⟨nd, rfl⟩⟩; (try first | exact ⟨rfl, _, World.drewN_drewN _ _ _⟩ | exact ⟨rfl, _, Eq.trans (World.drewN_drewN _ _ _) (congrArg (World.drewN _) (Nat.add_assoc _ _ _))⟩))); try go_wp2_with (first | (go_at_call 68; (with_reducible refine (impl_valueValid.calls ((rd_T110 l0 x10_1).f2) true _ A24.out).mono ?_); rintro e w' ⟨rfl, ⟨nd, rfl⟩⟩; (try first | exact ⟨rfl, _, World.drewN_drewN _ _ _⟩ | exact ⟨rfl, _, Eq.trans (World.drewN_drewN _ _ _) (congrArg (World.drewN _) (Nat.add_assoc _ _ _))⟩)) | (go_at_call 68; (with_reducible refine (impl_valueValid.calls ((rd_T110 l0 x10_1).f3) t140 _ A28.out).mono ?_); rintro e w' ⟨rfl, ⟨nd, rfl⟩⟩; (try first | exact ⟨rfl, _, World.drewN_drewN _ _ _⟩ | exact ⟨rfl, _, Eq.trans (World.drewN_drewN _ _ _) (congrArg (World.drewN _) (Nat.add_assoc _ _ _))⟩))))
                            go_meet
                            case rel => exact ⟨_, (!t140), (by first | rfl | (simp; done) | (simp [*]; done) | (simp [bne_nil_, beq_nil_]; done)), H', ⟨by have := HK1.out; have := HJ5.out; first | omega | exact Nat.le_refl _⟩, ⟨by (with_reducible repeat (first | refine blk_drewN ?_ _ | refine blk_drew ?_ | refine blk_alloc ?_ _)); exact BK136.out⟩, ⟨by repeat (first | (with_reducible first | exact HB.out | apply below_alloc | apply pw_below_drewN | apply below_drew1 | refine below_set ?_ GE136.out) | exact HB.out)⟩⟩
                        · replace c25 := Bool.eq_false_iff.mpr c25
                          subst c25
                          have H1 : (impl_FeedValid.j2 kj5 l0 x10_1 l0 (l0.length : Int) x10_1 true ((rd_T110 l0 x10_1).f0) ((rd_T110 l0 x10_1).f1) ((rd_T110 l0 x10_1).f2) ((rd_T110 l0 x10_1).f3)) = some r := by rw [if_neg (show ¬ (false = true) by decide)] at H; exact H
                          clear H
                          have H := H1
                          clear H1
                          have H' := Aside0.mk H
                          clear H
                          have hcz30_0 : wc.cell? ⟨gb136, 0, none⟩ = some (.int .i64 ((rd_T110 l0 x10_1).f0)) := (blk_cell BK136.out 0).trans rfl
                          have hcz30_1 : wc.cell? ⟨gb136, 1, none⟩ = some (.string ((rd_T110 l0 x10_1).f1)) := (blk_cell BK136.out 1).trans rfl
                          have hcz30_2 : wc.cell? ⟨gb136, 2, none⟩ = some (.int .i64 ((rd_T110 l0 x10_1).f2)) := (blk_cell BK136.out 2).trans rfl
                          have hcz30_3 : wc.cell? ⟨gb136, 3, none⟩ = some (.int .i64 ((rd_T110 l0 x10_1).f3)) := (blk_cell BK136.out 3).trans rfl
                          have hfz30_0 := blk_frozen BK136.out 0
                          have hfz30_1 := blk_frozen BK136.out 1
                          have hfz30_2 := blk_frozen BK136.out 2
                          have hfz30_3 := blk_frozen BK136.out 3
                          go_wp2_with (first | (go_at_call 68; (with_reducible refine (impl_valueValid.calls ((rd_T110 l0 x10_1).f2) false _ A24.out).mono ?_); rintro e w' ⟨rfl, ⟨nd, rfl⟩⟩; (try first | exact ⟨rfl, _, World.drewN_drewN _ _ _⟩ | exact ⟨rfl, _, Eq.trans (World.drewN_drewN _ _ _) (congrArg (World.drewN _) (Nat.add_assoc _ _ _))⟩)))
                          repeat (go_quiet (first | (go_at_call 68; (with_reducible refine (impl_valueValid.calls ((rd_T110 l0 x10_1).f2) false _ A24.out).mono ?_); rintro e w' ⟨rfl, ⟨nd, rfl⟩⟩; (try first | exact ⟨rfl, _, World.drewN_drewN _ _ _⟩ | exact ⟨rfl, _, Eq.trans (World.drewN_drewN _ _ _) (congrArg (World.drewN _) (Nat.add_assoc _ _ _))⟩))); try go_wp2_with (first | (go_at_call 68; (with_reducible refine (impl_valueValid.calls ((rd_T110 l0 x10_1).f2) false _ A24.out).mono ?_); rintro e w' ⟨rfl, ⟨nd, rfl⟩⟩; (try first | exact ⟨rfl, _, World.drewN_drewN _ _ _⟩ | exact ⟨rfl, _, Eq.trans (World.drewN_drewN _ _ _) (congrArg (World.drewN _) (Nat.add_assoc _ _ _))⟩))))
                          go_meet
                          case rel => exact ⟨_, (true), (by first | rfl | (simp; done) | (simp [*]; done) | (simp [bne_nil_, beq_nil_]; done)), H', ⟨by have := HK1.out; have := HJ5.out; first | omega | exact Nat.le_refl _⟩, ⟨by (with_reducible repeat (first | refine blk_drewN ?_ _ | refine blk_drew ?_ | refine blk_alloc ?_ _)); exact BK136.out⟩, ⟨by repeat (first | (with_reducible first | exact HB.out | apply below_alloc | apply pw_below_drewN | apply below_drew1 | refine below_set ?_ GE136.out) | exact HB.out)⟩⟩
                    case rest =>
                      clear HC18
                      try clear c1
                      try clear p1
                      try clear q1
                      try clear hx1
                      try clear c2
                      try clear c2b0
                      try clear c2b1
                      try clear p2
                      try clear c3
                      try clear c3b0
                      try clear c4
                      try clear c4b0
                      try clear c5
                      try clear c5b0
                      try clear p6
                      try clear c8
                      try clear c9
                      try clear c9b0
                      try clear c11
                      try clear c11b0
                      try clear p13
                      try clear q13
                      try clear hx13
                      try clear c14
                      try clear c17
                      try clear c19
                      try clear c19b0
                      try clear c19b1
                      try clear c20
                      try clear c20b0
                      try clear c20b1
                      try clear c25
                      try clear c26
                      try clear c26b0
                      try clear c26b1
                      try clear hcz10_0
                      try clear hcz10_1
                      try clear hcz10_2
                      try clear hcz10_3
                      try clear hcz12_0
                      try clear hcz12_1
                      try clear hcz12_2
                      try clear hcz12_3
                      try clear hcz15_0
                      try clear hcz15_1
                      try clear hcz15_2
                      try clear hcz15_3
                      try clear hcz16_0
                      try clear hcz16_1
                      try clear hcz16_2
                      try clear hcz16_3
                      try clear hcz21_0
                      try clear hcz21_1
                      try clear hcz21_2
                      try clear hcz21_3
                      try clear hcz23_0
                      try clear hcz23_1
                      try clear hcz23_2
                      try clear hcz23_3
                      try clear hcz27_0
                      try clear hcz27_1
                      try clear hcz27_2
                      try clear hcz27_3
                      try clear hcz29_0
                      try clear hcz29_1
                      try clear hcz29_2
                      try clear hcz29_3
                      try clear hcz30_0
                      try clear hcz30_1
                      try clear hcz30_2
                      try clear hcz30_3
                      try clear hcz8_0
                      try clear hcz8_1
                      try clear hcz8_2
                      try clear hcz8_3
                      try clear hfz10_0
                      try clear hfz10_1
                      try clear hfz10_2
                      try clear hfz10_3
                      try clear hfz12_0
                      try clear hfz12_1
                      try clear hfz12_2
                      try clear hfz12_3
                      try clear hfz15_0
                      try clear hfz15_1
                      try clear hfz15_2
                      try clear hfz15_3
                      try clear hfz16_0
                      try clear hfz16_1
                      try clear hfz16_2
                      try clear hfz16_3
                      try clear hfz21_0
                      try clear hfz21_1
                      try clear hfz21_2
                      try clear hfz21_3
                      try clear hfz23_0
                      try clear hfz23_1
                      try clear hfz23_2
                      try clear hfz23_3
                      try clear hfz27_0
                      try clear hfz27_1
                      try clear hfz27_2
                      try clear hfz27_3
                      try clear hfz29_0
                      try clear hfz29_1
                      try clear hfz29_2
                      try clear hfz29_3
                      try clear hfz30_0
                      try clear hfz30_1
                      try clear hfz30_2
                      try clear hfz30_3
                      try clear hfz8_0
                      try clear hfz8_1
                      try clear hfz8_2
                      try clear hfz8_3
                      try clear hx135_0
                      try clear hx135_1
                      try clear hx135_2
                      try clear hx135_3
                      try clear p1
                      try clear p13
                      try clear p135
                      try clear p2
                      try clear p6
                      try clear q1
                      try clear q13
                      try clear q135
                      obtain ⟨kq, x55_17, rfl, HA, HJ17, BK136, HB⟩ := hcut
                      cases kq with
                      | zero => exact absurd HA.out (by simp [impl_FeedValid.j2])
                      | succ kj17 =>
                        have H := HA.out
                        clear HA
                        simp only [impl_FeedValid.j2] at H
                        by_cases c31 : x55_17 = true
                        · subst c31
                          have H1 : (some false) = some r := by rw [if_pos rfl] at H; exact H
                          clear H
                          have H := H1
                          clear H1
                          obtain rfl := Option.some.inj H
                          go_wp2
                          repeat (go_quiet (fail); try go_wp2)
                          go_ret
                          exact ⟨by first | rfl | (simp [errW_none, errW_some] <;> rfl) | (simp [*, errW_none, errW_some] <;> rfl) | (simp only [IntKind.wrap_u8, show ∀ n_ : Int, wrap64 (n_ % 256) = n_ % 256 from fun n_ => by unfold wrap64; omega]; rfl), by repeat (first | (with_reducible first | exact HB.out | apply below_alloc | apply pw_below_drewN | apply below_drew1 | refine below_set ?_ GE136.out) | exact HB.out)⟩
                        · replace c31 := Bool.eq_false_iff.mpr c31
                          subst c31
                          have H1 : (if x10_1 > 0 then (if 0 ≤ (wrap64 (x10_1 - 1)) then (if (wrap64 (x10_1 - 1)) < (l0.length : Int) then (if ((rd_T110 l0 (wrap64 (x10_1 - 1))).f0) ≥ ((rd_T110 l0 x10_1).f0) then (some false) else (impl_FeedValid.l0 kj17 l0 l0 (l0.length : Int) (wrap64 (x10_1 + 1)))) else (none)) else (none)) else (impl_FeedValid.l0 kj17 l0 l0 (l0.length : Int) (wrap64 (x10_1 + 1)))) = some r := by rw [if_neg (show ¬ (false = true) by decide)] at H; exact H
                          clear H
                          have H := H1
                          clear H1
                          by_cases c32 : x10_1 > 0
                          · rw [if_pos c32] at H
                            have c32b0 : decide (0 < x10_1) = true := decide_eq_true c32
                            clear c32
                            obtain ⟨ji33, hji33⟩ : ∃ j_ : Int, (wrap64 (x10_1 - 1)) = j_ := ⟨_, rfl⟩
                            replace H : (if 0 ≤ (ji33) then (if (ji33) < (l0.length : Int) then (if ((rd_T110 l0 (ji33)).f0) ≥ ((rd_T110 l0 x10_1).f0) then (some false) else (impl_FeedValid.l0 kj17 l0 l0 (l0.length : Int) (wrap64 (x10_1 + 1)))) else (none)) else (none)) = some r := by first | (rw [hji33] at H; exact H) | (simp only [hji33] at H ⊢; exact H)
                            have hji33w : (IntKind.i64.wrap (x10_1 - 1)) = ji33 := (i64_w _).trans hji33
                            by_cases c34 : 0 ≤ (ji33)
                            · rw [if_pos c34] at H
                              have c34b0 : decide (0 ≤ (ji33)) = true := decide_eq_true c34
                              clear c34
                              by_cases c35 : (ji33) < (l0.length : Int)
                              · rw [if_pos c35] at H
                                have c35b0 : decide ((ji33) < (l0.length : Int)) = true := decide_eq_true c35
                                clear c35
                                by_cases c36 : ((rd_T110 l0 (ji33)).f0) ≥ ((rd_T110 l0 x10_1).f0)
                                · rw [if_pos c36] at H
                                  have c36b0 : decide (((rd_T110 l0 x10_1).f0) ≤ ((rd_T110 l0 (ji33)).f0)) = true := decide_eq_true c36
                                  clear c36
                                  obtain rfl := Option.some.inj H
                                  have p141 : 0 ≤ ((ji33) : Int) := of_decide_eq_true (by first | (with_reducible assumption) | assumption)
                                  have q141 : (ji33) < (l0.length : Int) := of_decide_eq_true (by first | (with_reducible assumption) | assumption)
                                  obtain ⟨ad141, e141, hx141_0, hx141_1, hx141_2, hx141_3⟩ := at_T110 HR0.out (ji33) p141 q141
                                  obtain rfl : ad135 = ad141 := (by injection e141)
                                  replace hx141_0 := (HB.out.cell (World.block_lt_of_cell? w _ hx141_0)).trans hx141_0
                                  replace hx141_1 := (HB.out.cell (World.block_lt_of_cell? w _ hx141_1)).trans hx141_1
                                  replace hx141_2 := (HB.out.cell (World.block_lt_of_cell? w _ hx141_2)).trans hx141_2
                                  replace hx141_3 := (HB.out.cell (World.block_lt_of_cell? w _ hx141_3)).trans hx141_3
                                  replace p141 := eq_true p141
                                  replace q141 := eq_true q141
                                  have hcz37_0 : wc.cell? ⟨gb136, 0, none⟩ = some (.int .i64 ((rd_T110 l0 x10_1).f0)) := (blk_cell BK136.out 0).trans rfl
                                  have hcz37_1 : wc.cell? ⟨gb136, 1, none⟩ = some (.string ((rd_T110 l0 x10_1).f1)) := (blk_cell BK136.out 1).trans rfl
                                  have hcz37_2 : wc.cell? ⟨gb136, 2, none⟩ = some (.int .i64 ((rd_T110 l0 x10_1).f2)) := (blk_cell BK136.out 2).trans rfl
                                  have hcz37_3 : wc.cell? ⟨gb136, 3, none⟩ = some (.int .i64 ((rd_T110 l0 x10_1).f3)) := (blk_cell BK136.out 3).trans rfl
                                  have hfz37_0 := blk_frozen BK136.out 0
                                  have hfz37_1 := blk_frozen BK136.out 1
                                  have hfz37_2 := blk_frozen BK136.out 2
                                  have hfz37_3 := blk_frozen BK136.out 3
                                  go_wp2
                                  repeat (go_quiet (fail); try go_wp2)
                                  go_ret
                                  exact ⟨by first | rfl | (simp [errW_none, errW_some] <;> rfl) | (simp only [← hji33]; first | rfl | (simp [errW_none, errW_some] <;> rfl)) | (simp [*, errW_none, errW_some] <;> rfl) | (simp only [IntKind.wrap_u8, show ∀ n_ : Int, wrap64 (n_ % 256) = n_ % 256 from fun n_ => by unfold wrap64; omega]; rfl), by repeat (first | (with_reducible first | exact HB.out | apply below_alloc | apply pw_below_drewN | apply below_drew1 | refine below_set ?_ GE136.out) | exact HB.out)⟩
                                · rw [if_neg c36] at H
                                  have c36b0 : decide (((rd_T110 l0 x10_1).f0) ≤ ((rd_T110 l0 (ji33)).f0)) = false := decide_eq_false c36
                                  clear c36
                                  have H' := Aside0.mk H
                                  clear H
                                  have p141 : 0 ≤ ((ji33) : Int) := of_decide_eq_true (by first | (with_reducible assumption) | assumption)
                                  have q141 : (ji33) < (l0.length : Int) := of_decide_eq_true (by first | (with_reducible assumption) | assumption)
                                  obtain ⟨ad141, e141, hx141_0, hx141_1, hx141_2, hx141_3⟩ := at_T110 HR0.out (ji33) p141 q141
                                  obtain rfl : ad135 = ad141 := (by injection e141)
                                  replace hx141_0 := (HB.out.cell (World.block_lt_of_cell? w _ hx141_0)).trans hx141_0
                                  replace hx141_1 := (HB.out.cell (World.block_lt_of_cell? w _ hx141_1)).trans hx141_1
                                  replace hx141_2 := (HB.out.cell (World.block_lt_of_cell? w _ hx141_2)).trans hx141_2
                                  replace hx141_3 := (HB.out.cell (World.block_lt_of_cell? w _ hx141_3)).trans hx141_3
                                  replace p141 := eq_true p141
                                  replace q141 := eq_true q141
                                  have hcz38_0 : wc.cell? ⟨gb136, 0, none⟩ = some (.int .i64 ((rd_T110 l0 x10_1).f0)) := (blk_cell BK136.out 0).trans rfl
                                  have hcz38_1 : wc.cell? ⟨gb136, 1, none⟩ = some (.string ((rd_T110 l0 x10_1).f1)) := (blk_cell BK136.out 1).trans rfl
                                  have hcz38_2 : wc.cell? ⟨gb136, 2, none⟩ = some (.int .i64 ((rd_T110 l0 x10_1).f2)) := (blk_cell BK136.out 2).trans rfl
                                  have hcz38_3 : wc.cell? ⟨gb136, 3, none⟩ = some (.int .i64 ((rd_T110 l0 x10_1).f3)) := (blk_cell BK136.out 3).trans rfl
                                  have hfz38_0 := blk_frozen BK136.out 0
                                  have hfz38_1 := blk_frozen BK136.out 1
                                  have hfz38_2 := blk_frozen BK136.out 2
                                  have hfz38_3 := blk_frozen BK136.out 3
                                  go_wp2
                                  repeat (go_quiet (fail); try go_wp2)
                                  go_roundg kj17
                                  case measure => have := HK1.out; have := HJ5.out; have := HJ17.out; omega
                                  case rel => exact ⟨(wrap64 (x10_1 + 1)), (by first | rfl | (simp; done) | (simp [*]; done) | (simp [bne_nil_, beq_nil_]; done)), H', ⟨by have := HK1.out; have := HJ5.out; have := HJ17.out; omega⟩, ⟨by repeat (first | (with_reducible first | exact HB.out | apply below_alloc | apply pw_below_drewN | apply below_drew1 | refine below_set ?_ GE136.out) | exact HB.out)⟩⟩
                              · rw [if_neg c35] at H
                                exact absurd H (by simp)
                            · rw [if_neg c34] at H
                              exact absurd H (by simp)
                          · rw [if_neg c32] at H
                            have c32b0 : decide (0 < x10_1) = false := decide_eq_false c32
                            clear c32
                            have H' := Aside0.mk H
                            clear H
                            go_wp2
                            repeat (go_quiet (fail); try go_wp2)
                            go_roundg kj17
                            case measure => have := HK1.out; have := HJ5.out; have := HJ17.out; omega
                            case rel => exact ⟨(wrap64 (x10_1 + 1)), (by first | rfl | (simp; done) | (simp [*]; done) | (simp [bne_nil_, beq_nil_]; done)), H', ⟨by have := HK1.out; have := HJ5.out; have := HJ17.out; omega⟩, ⟨by repeat (first | (with_reducible first | exact HB.out | apply below_alloc | apply pw_below_drewN | apply below_drew1 | refine below_set ?_ GE136.out) | exact HB.out)⟩⟩
            · rw [if_neg c5] at H
              exact absurd H (by simp)
          · rw [if_neg c4] at H
            exact absurd H (by simp)
        · rw [if_neg c3] at H
          have c3b0 : decide (x10_1 < (l0.length : Int)) = false := decide_eq_false c3
          clear c3
          obtain rfl := Option.some.inj H
          go_wp2
          repeat (go_quiet (fail); try go_wp2)
          go_ret
          exact ⟨by first | rfl | (simp [errW_none, errW_some] <;> rfl) | (simp [*, errW_none, errW_some] <;> rfl) | (simp only [IntKind.wrap_u8, show ∀ n_ : Int, wrap64 (n_ % 256) = n_ % 256 from fun n_ => by unfold wrap64; omega]; rfl), by repeat (first | (with_reducible first | exact HB.out | apply below_alloc | apply pw_below_drewN | apply below_drew1) | exact HB.out)⟩

/-! ### impl_FeedFrom: function 26 -/
def impl_FeedFrom.l0 : Nat → Int → List (S110) → List (S110) → Int → Int → Option ((List (S110)))
  | 0, _, _, _, _, _ => none
  | k + 1, x1, x5, x11, x12, x13 => if x13 < x12 then (if 0 ≤ x13 then (if x13 < (x11.length : Int) then (if ((rd_T110 x11 x13).f0) ≥ x1 then (if x5.length < 3518437208883 then (impl_FeedFrom.l0 k x1 (x5 ++ [(⟨(rd_T110 x11 x13).f0, (rd_T110 x11 x13).f1, (rd_T110 x11 x13).f2, (rd_T110 x11 x13).f3⟩ : S110)]) x11 x12 (wrap64 (x13 + 1))) else (none)) else (impl_FeedFrom.l0 k x1 x5 x11 x12 (wrap64 (x13 + 1)))) else (none)) else (none)) else (some x5)
def impl_FeedFrom.f (k : Nat) (l0 : List (S110)) (a1 : Int) : Option ((List (S110))) := (impl_FeedValid.f k l0).bind fun t142 => (if t142 = true then (impl_FeedFrom.l0 k a1 ([] : List (S110)) l0 (l0.length : Int) 0) else (some ([] : List (S110))))
theorem impl_FeedFrom.mono_l : ∀ k, (∀ y0 y1 y2 y3 y4, LeO (impl_FeedFrom.l0 k y0 y1 y2 y3 y4) (impl_FeedFrom.l0 (k + 1) y0 y1 y2 y3 y4))
  | 0 => fun _ _ _ _ _ r h => by simp [impl_FeedFrom.l0] at h
  | k + 1 => by
    have ih0 := impl_FeedFrom.mono_l k
    · intro y0 y1 y2 y3 y4
      unfold impl_FeedFrom.l0
      repeat' first
      | (with_reducible exact ih0 _ _ _ _ _)
      | (with_reducible exact impl_FeedValid.mono _ _)
      | (with_reducible exact LeO.refl _)
      | (with_reducible exact LeO.none _)
      | (with_reducible refine LeO.ite ?_ ?_)
      | (with_reducible refine LeO.bind ?_ (fun _ => ?_))
      | exact ih0 _ _ _ _ _
      | exact impl_FeedValid.mono _ _
      | exact LeO.none _
      | refine LeO.ite ?_ ?_
      | refine LeO.bind ?_ (fun _ => ?_)
theorem impl_FeedFrom.mono : ∀ a0 a1 k, LeO (impl_FeedFrom.f k a0 a1) (impl_FeedFrom.f (k + 1) a0 a1) := by
  intro a0 a1 k
  have ih0 := impl_FeedFrom.mono_l k
  unfold impl_FeedFrom.f
  repeat' first
      | (with_reducible exact ih0 _ _ _ _ _)
      | (with_reducible exact impl_FeedValid.mono _ _)
      | (with_reducible exact LeO.refl _)
      | (with_reducible exact LeO.none _)
      | (with_reducible refine LeO.ite ?_ ?_)
      | (with_reducible refine LeO.bind ?_ (fun _ => ?_))
      | exact ih0 _ _ _ _ _
      | exact impl_FeedValid.mono _ _
      | exact LeO.none _
      | refine LeO.ite ?_ ?_
      | refine LeO.bind ?_ (fun _ => ?_)
set_option maxHeartbeats 8000000 in
set_option maxRecDepth 100000 in
theorem impl_FeedFrom.calls (k : Nat) (A0 : Option Addr) (c0 : Nat) (l0 : List (S110)) (a1 : Int) (r : List (S110)) (w : World) (hr0 : Kd.C k110 w A0 l0.length l0) (hc0 : l0.length ≤ c0) (h : impl_FeedFrom.f k l0 a1 = some r) :
    Calls Try.prog 26 #[.slice A0 l0.length c0, .int .i64 a1] w fun e w' => ∃ v0_ : Value, e = .returned (v0_) ∧ Kd.R k110 110 w' w.heap.size (fun _ => True) v0_ r ∧ Below w.heap.size w w' := by
  have hu110 := Try.underlying110
  have HR0 := Aside0.mk hr0
  have HC0 := Aside0.mk hc0
  clear hr0 hc0
  have HB := Aside0.mk (Below.refl w.heap.size w)
  have H : ((impl_FeedValid.f k l0).bind fun t142 => (if t142 = true then (impl_FeedFrom.l0 k a1 ([] : List (S110)) l0 (l0.length : Int) 0) else (some ([] : List (S110))))) = some r := h
  clear h
  replace H := Option.bind_eq_some_iff.mp H
  obtain ⟨t142, A30, H⟩ := H
  replace H : (if t142 = true then (impl_FeedFrom.l0 k a1 ([] : List (S110)) l0 (l0.length : Int) 0) else (some ([] : List (S110)))) = some r := H
  have A3 := Aside0.mk A30
  clear A30
  by_cases c4 : t142 = true
  · subst c4
    have H1 : (impl_FeedFrom.l0 k a1 ([] : List (S110)) l0 (l0.length : Int) 0) = some r := by rw [if_pos rfl] at H; exact H
    clear H
    have H := H1
    clear H1
    have H' := Aside0.mk H
    clear H
    go_enter Try.func26, Try.ntmps26
    go_wp2_with (first | ((with_reducible refine gate_callee (f := 80) rfl ?_); refine goesL_ (some 9) rfl rfl Try.func80 (by kernel_rfl) rfl #[.slice A0 l0.length c0] rfl (by (try simp only [List.map_toArray, List.map_cons, List.map_nil]); first | done | rfl | (simp only [List.length_drop, List.length_take]; rfl)) ?_; (with_reducible refine (impl_FeedValid.calls k _ _ l0 true _ ?side1 ?side2 A3.out).mono ?_); (case side1 => repeat (first | exact HR0.out | (with_reducible refine Kd.C_alloc ?_ _) | (with_reducible refine Kd.C_drewN ?_ _) | (with_reducible refine Kd.C_drew ?_))); (case side2 => exact HC0.out); rintro e w5 ⟨rfl, hb⟩; refine ⟨_, rfl, ?_⟩; have n0_ := Aside0.mk (below_step (by repeat (first | (with_reducible first | exact HB.out | apply below_alloc | apply pw_below_drewN | apply below_drew1) | exact HB.out)) hb); clear HB; have HB := n0_; clear n0_; (try clear hb); (try clear hb2); (try clear hk); (try clear hi)))
    go_loopg [5, 13] k (fun kq v5 v13 w' => ∃ (x5_1 : List (S110)) (x13_1 : Int), v13 = .int .i64 x13_1 ∧ Aside0 (impl_FeedFrom.l0 kq a1 x5_1 l0 (l0.length : Int) x13_1 = some r) ∧ Aside0 (kq ≤ k) ∧ Aside0 (Kd.R k110 110 w' w.heap.size (fun _ => True) v5 x5_1) ∧ Aside0 (Below w.heap.size w w'))
    case atStart => exact ⟨(([] : List (S110))), (0), (by first | rfl | (simp; done) | (simp [*]; done) | (simp [bne_nil_, beq_nil_]; done)), H', ⟨Nat.le_refl _⟩, ⟨by first | exact Kd.R_nil _ _ _ _ _ | exact Kd.N_nil _ _ _ _ _ | exact Kd.V_nil _ _ _ _ _ | exact Kd.Q_nil _ _ _ _ _ | exact Kd.S_nil _ _ _ _ _⟩, ⟨by repeat (first | (with_reducible first | exact HB.out | apply below_alloc | apply pw_below_drewN | apply below_drew1) | exact HB.out)⟩⟩
    case round =>
      clear H'
      try clear c2
      try clear p2
      try clear c4
      obtain ⟨x5_1, x13_1, rfl, HA, HK1, HO_5, HB⟩ := hrel
      cases gk with
      | zero => exact absurd HA.out (by simp [impl_FeedFrom.l0])
      | succ k1 =>
        have H := HA.out
        clear HA
        simp only [impl_FeedFrom.l0] at H
        by_cases c6 : x13_1 < (l0.length : Int)
        · rw [if_pos c6] at H
          have c6b0 : decide (x13_1 < (l0.length : Int)) = true := decide_eq_true c6
          clear c6
          by_cases c7 : 0 ≤ x13_1
          · rw [if_pos c7] at H
            have c7b0 : decide (0 ≤ x13_1) = true := decide_eq_true c7
            clear c7
            by_cases c8 : x13_1 < (l0.length : Int)
            · rw [if_pos c8] at H
              have c8b0 : decide (x13_1 < (l0.length : Int)) = true := decide_eq_true c8
              clear c8
              by_cases c9 : ((rd_T110 l0 x13_1).f0) ≥ a1
              · rw [if_pos c9] at H
                have c9b0 : decide (a1 ≤ ((rd_T110 l0 x13_1).f0)) = true := decide_eq_true c9
                clear c9
                by_cases c10 : x5_1.length < 3518437208883
                · rw [if_pos c10] at H
                  have LMc10 := Aside0.mk c10
                  clear c10
                  obtain ⟨y145, hy145⟩ : ∃ y_ : List (S110), y_ = (x5_1 ++ [(⟨(rd_T110 l0 x13_1).f0, (rd_T110 l0 x13_1).f1, (rd_T110 l0 x13_1).f2, (rd_T110 l0 x13_1).f3⟩ : S110)]) := ⟨_, rfl⟩
                  replace H : (impl_FeedFrom.l0 k1 a1 y145 l0 (l0.length : Int) (wrap64 (x13_1 + 1))) = some r := by first | (rw [hy145]; with_reducible exact H) | (have H2_ := (Option.bind_some _ _).symm.trans H; rw [hy145]; with_reducible exact H2_) | (have H2_ := (Option.bind_some _ _).symm.trans H; with_reducible exact H2_) | with_reducible exact H | (rw [hy145]; exact H) | exact H
                  have Ny145 := Aside0.mk hy145
                  clear hy145
                  have H' := Aside0.mk H
                  clear H
                  have p143 : 0 ≤ (x13_1 : Int) := of_decide_eq_true (by first | (with_reducible assumption) | assumption)
                  have q143 : x13_1 < (l0.length : Int) := of_decide_eq_true (by first | (with_reducible assumption) | assumption)
                  obtain ⟨ad143, e143, hx143_0, hx143_1, hx143_2, hx143_3⟩ := at_T110 HR0.out x13_1 p143 q143
                  cases e143
                  replace hx143_0 := (HB.out.cell (World.block_lt_of_cell? w _ hx143_0)).trans hx143_0
                  replace hx143_1 := (HB.out.cell (World.block_lt_of_cell? w _ hx143_1)).trans hx143_1
                  replace hx143_2 := (HB.out.cell (World.block_lt_of_cell? w _ hx143_2)).trans hx143_2
                  replace hx143_3 := (HB.out.cell (World.block_lt_of_cell? w _ hx143_3)).trans hx143_3
                  replace p143 := eq_true p143
                  replace q143 := eq_true q143
                  go_wp2_with (first | ((with_reducible refine gate_dst (N := 7) rfl ?_); refine box_event ?hg (N := 7) ?hd (cs := #[.int .i64 0, .string (⟨#[]⟩ : ByteArray), .int .i64 0, .int .i64 0]) (t := 110) ?hr ?_; (case hd => rfl); (case hg => rfl); (case hr => first | (go_simp; done) | (go_simp; rfl)); intro gb144 hg w11 hbox hb; have n0_ := Aside0.mk (Kd.R_below (Kd.R_elderB (by (with_reducible repeat (first | apply Kd.R_alloc | apply Kd.R_drewN | apply Kd.R_drew)); exact HO_5.out) gb144 (Nat.le_of_eq hg.symm)) hb); have n1_ := Aside0.mk (below_step (by repeat (first | (with_reducible first | exact HB.out | apply below_alloc | apply pw_below_drewN | apply below_drew1) | exact HB.out)) hb); have n2_ := Aside0.mk (hbox); have n3_ := Aside0.mk ((by rw [hg]; exact (below_size (by repeat (first | (with_reducible first | exact HB.out | apply below_alloc | apply pw_below_drewN | apply below_drew1) | exact HB.out))) : w.heap.size ≤ gb144)); have n4_ := Aside0.mk ((by rw [hg]; exact (below_size (by repeat (first | (with_reducible first | exact HB.out | apply below_alloc | apply pw_below_drewN | apply below_drew1) | exact HB.out))) : w.heap.size ≤ gb144)); clear HO_5; clear HB; have HO_5 := n0_; have HB := n1_; have BK144 := n2_; have GW144 := n3_; have GE144 := n4_; clear n0_ n1_ n2_ n3_ n4_; clear hb hbox hg; have hcz12_0 : w11.cell? ⟨gb144, 0, none⟩ = some (.int .i64 0) := (blk_cell BK144.out 0).trans rfl; have hcz12_1 : w11.cell? ⟨gb144, 1, none⟩ = some (.string (⟨#[]⟩ : ByteArray)) := (blk_cell BK144.out 1).trans rfl; have hcz12_2 : w11.cell? ⟨gb144, 2, none⟩ = some (.int .i64 0) := (blk_cell BK144.out 2).trans rfl; have hcz12_3 : w11.cell? ⟨gb144, 3, none⟩ = some (.int .i64 0) := (blk_cell BK144.out 3).trans rfl; have hfz12_0 := blk_frozen BK144.out 0; have hfz12_1 := blk_frozen BK144.out 1; have hfz12_2 := blk_frozen BK144.out 2; have hfz12_3 := blk_frozen BK144.out 3) | ((with_reducible refine gate_builtin (b := .append) (xs := #[.tmp 21, .tmp 23]) rfl ?_); at_builtin; refine Kd.R_append k110 (w0 := w) w.heap.size rfl (.tmp 21) (.tmp 23) 38 110 (.agg #[(.int .i64 0), (.string ⟨#[]⟩), (.int .i64 0), (.int .i64 0)]) 40 rfl Try.underlying38 info110 rfl (by decide) (by omega) u5 x5_1 (⟨(rd_T110 l0 x13_1).f0, (rd_T110 l0 x13_1).f1, (rd_T110 l0 x13_1).f2, (rd_T110 l0 x13_1).f3⟩ : S110) [.int .i64 ((rd_T110 l0 x13_1).f0), .string ((rd_T110 l0 x13_1).f1), .int .i64 ((rd_T110 l0 x13_1).f2), .int .i64 ((rd_T110 l0 x13_1).f3)] (fun k_ => k_ ≠ gb144) (fun _ => False) rfl (by first | (go_simp; done) | (go_simp; rfl)) ?aP (fun _ hk => hk.elim) ?aF ?aO ?aB ?aS ?aL ?_; (case aP => exact k110_mkM _ _ _ (⟨(rd_T110 l0 x13_1).f0, (rd_T110 l0 x13_1).f1, (rd_T110 l0 x13_1).f2, (rd_T110 l0 x13_1).f3⟩ : S110)); (case aB => exact (by repeat (first | (with_reducible first | exact HB.out | apply below_alloc | apply pw_below_drewN | apply below_drew1 | refine below_set ?_ GE144.out) | exact HB.out))); (case aF => exact (fun k_ hk => Kd.freshB (g := gb144) (o := .cells #[.int .i64 ((rd_T110 l0 x13_1).f0), .string ((rd_T110 l0 x13_1).f1), .int .i64 ((rd_T110 l0 x13_1).f2), .int .i64 ((rd_T110 l0 x13_1).f3)] 110 (0, 0)) (by (with_reducible repeat (first | refine blk_drewN ?_ _ | refine blk_drew ?_ | refine blk_alloc ?_ _)); refine blk_put (cs := #[.int .i64 ((rd_T110 l0 x13_1).f0), .string ((rd_T110 l0 x13_1).f1), .int .i64 ((rd_T110 l0 x13_1).f2), .int .i64 0]) ?_ 3 _ rfl; (with_reducible repeat (first | refine blk_drewN ?_ _ | refine blk_drew ?_ | refine blk_alloc ?_ _)); refine blk_put (cs := #[.int .i64 ((rd_T110 l0 x13_1).f0), .string ((rd_T110 l0 x13_1).f1), .int .i64 0, .int .i64 0]) ?_ 2 _ rfl; (with_reducible repeat (first | refine blk_drewN ?_ _ | refine blk_drew ?_ | refine blk_alloc ?_ _)); refine blk_put (cs := #[.int .i64 ((rd_T110 l0 x13_1).f0), .string (⟨#[]⟩ : ByteArray), .int .i64 0, .int .i64 0]) ?_ 1 _ rfl; (with_reducible repeat (first | refine blk_drewN ?_ _ | refine blk_drew ?_ | refine blk_alloc ?_ _)); refine blk_put (cs := #[.int .i64 0, .string (⟨#[]⟩ : ByteArray), .int .i64 0, .int .i64 0]) ?_ 0 _ rfl; (with_reducible repeat (first | refine blk_drewN ?_ _ | refine blk_drew ?_ | refine blk_alloc ?_ _)); exact BK144.out) k_ hk)); (case aO => exact (by (with_reducible repeat (first | apply Kd.R_alloc | apply Kd.R_drewN | apply Kd.R_drew)); exact Kd.R_mono (Kd.R_far (p := ⟨gb144, 3, none⟩) (Kd.R_far (p := ⟨gb144, 2, none⟩) (Kd.R_far (p := ⟨gb144, 1, none⟩) (Kd.R_far (p := ⟨gb144, 0, none⟩) (Kd.R_mono HO_5.out (fun k_ hk => (⟨hk, hk.2⟩ : _ ∧ k_ ≠ gb144))) (fun _ hk => hk.2) (.int .i64 ((rd_T110 l0 x13_1).f0))) (fun _ hk => hk.2) (.string ((rd_T110 l0 x13_1).f1))) (fun _ hk => hk.2) (.int .i64 ((rd_T110 l0 x13_1).f2))) (fun _ hk => hk.2) (.int .i64 ((rd_T110 l0 x13_1).f3))) (fun _ hk => hk.1.2))); (case aS => exact (below_size (by repeat (first | (with_reducible first | exact HB.out | apply below_alloc | apply pw_below_drewN | apply below_drew1 | refine below_set ?_ GE144.out) | exact HB.out)))); (case aL => have := LMc10.out; omega); intro v146 w13 ho hb hg hat; rw [← Ny145.out] at ho; have n0_ := Aside0.mk (blk_grown (g := gb144) (o := .cells #[.int .i64 ((rd_T110 l0 x13_1).f0), .string ((rd_T110 l0 x13_1).f1), .int .i64 ((rd_T110 l0 x13_1).f2), .int .i64 ((rd_T110 l0 x13_1).f3)] 110 (0, 0)) (by (with_reducible repeat (first | refine blk_drewN ?_ _ | refine blk_drew ?_ | refine blk_alloc ?_ _)); refine blk_put (cs := #[.int .i64 ((rd_T110 l0 x13_1).f0), .string ((rd_T110 l0 x13_1).f1), .int .i64 ((rd_T110 l0 x13_1).f2), .int .i64 0]) ?_ 3 _ rfl; (with_reducible repeat (first | refine blk_drewN ?_ _ | refine blk_drew ?_ | refine blk_alloc ?_ _)); refine blk_put (cs := #[.int .i64 ((rd_T110 l0 x13_1).f0), .string ((rd_T110 l0 x13_1).f1), .int .i64 0, .int .i64 0]) ?_ 2 _ rfl; (with_reducible repeat (first | refine blk_drewN ?_ _ | refine blk_drew ?_ | refine blk_alloc ?_ _)); refine blk_put (cs := #[.int .i64 ((rd_T110 l0 x13_1).f0), .string (⟨#[]⟩ : ByteArray), .int .i64 0, .int .i64 0]) ?_ 1 _ rfl; (with_reducible repeat (first | refine blk_drewN ?_ _ | refine blk_drew ?_ | refine blk_alloc ?_ _)); refine blk_put (cs := #[.int .i64 0, .string (⟨#[]⟩ : ByteArray), .int .i64 0, .int .i64 0]) ?_ 0 _ rfl; (with_reducible repeat (first | refine blk_drewN ?_ _ | refine blk_drew ?_ | refine blk_alloc ?_ _)); exact BK144.out) hg (Kd.R_away HO_5.out (fun _ hk => hk.2))); have n1_ := Aside0.mk (hb); have n2_ := Aside0.mk (ho); clear BK144; clear HB; clear HO_5; have BK144 := n0_; have HB := n1_; have HO147 := n2_; clear n0_ n1_ n2_; clear ho hb hg hat))
                  go_roundg k1
                  case measure => have := HK1.out; omega
                  case rel => exact ⟨(y145), (wrap64 (x13_1 + 1)), (by first | rfl | (simp; done) | (simp [*]; done) | (simp [bne_nil_, beq_nil_]; done)), H', ⟨by have := HK1.out; omega⟩, ⟨by (with_reducible repeat (first | apply Kd.R_alloc | apply Kd.R_drewN | apply Kd.R_drew)); exact Kd.R_mono HO147.out (fun _ hk => trivial)⟩, ⟨by repeat (first | (with_reducible first | exact HB.out | apply below_alloc | apply pw_below_drewN | apply below_drew1 | refine below_set ?_ GE144.out) | exact HB.out)⟩⟩
                · rw [if_neg c10] at H
                  exact absurd H (by simp)
              · rw [if_neg c9] at H
                have c9b0 : decide (a1 ≤ ((rd_T110 l0 x13_1).f0)) = false := decide_eq_false c9
                clear c9
                have H' := Aside0.mk H
                clear H
                have p143 : 0 ≤ (x13_1 : Int) := of_decide_eq_true (by first | (with_reducible assumption) | assumption)
                have q143 : x13_1 < (l0.length : Int) := of_decide_eq_true (by first | (with_reducible assumption) | assumption)
                obtain ⟨ad143, e143, hx143_0, hx143_1, hx143_2, hx143_3⟩ := at_T110 HR0.out x13_1 p143 q143
                cases e143
                replace hx143_0 := (HB.out.cell (World.block_lt_of_cell? w _ hx143_0)).trans hx143_0
                replace hx143_1 := (HB.out.cell (World.block_lt_of_cell? w _ hx143_1)).trans hx143_1
                replace hx143_2 := (HB.out.cell (World.block_lt_of_cell? w _ hx143_2)).trans hx143_2
                replace hx143_3 := (HB.out.cell (World.block_lt_of_cell? w _ hx143_3)).trans hx143_3
                replace p143 := eq_true p143
                replace q143 := eq_true q143
                go_wp2_with (first | ((with_reducible refine gate_dst (N := 7) rfl ?_); refine box_event ?hg (N := 7) ?hd (cs := #[.int .i64 0, .string (⟨#[]⟩ : ByteArray), .int .i64 0, .int .i64 0]) (t := 110) ?hr ?_; (case hd => rfl); (case hg => rfl); (case hr => first | (go_simp; done) | (go_simp; rfl)); intro gb144 hg w14 hbox hb; have n0_ := Aside0.mk (Kd.R_below (Kd.R_elderB (by (with_reducible repeat (first | apply Kd.R_alloc | apply Kd.R_drewN | apply Kd.R_drew)); exact HO_5.out) gb144 (Nat.le_of_eq hg.symm)) hb); have n1_ := Aside0.mk (below_step (by repeat (first | (with_reducible first | exact HB.out | apply below_alloc | apply pw_below_drewN | apply below_drew1) | exact HB.out)) hb); have n2_ := Aside0.mk (hbox); have n3_ := Aside0.mk ((by rw [hg]; exact (below_size (by repeat (first | (with_reducible first | exact HB.out | apply below_alloc | apply pw_below_drewN | apply below_drew1) | exact HB.out))) : w.heap.size ≤ gb144)); have n4_ := Aside0.mk ((by rw [hg]; exact (below_size (by repeat (first | (with_reducible first | exact HB.out | apply below_alloc | apply pw_below_drewN | apply below_drew1) | exact HB.out))) : w.heap.size ≤ gb144)); clear HO_5; clear HB; have HO_5 := n0_; have HB := n1_; have BK144 := n2_; have GW144 := n3_; have GE144 := n4_; clear n0_ n1_ n2_ n3_ n4_; clear hb hbox hg; have hcz15_0 : w14.cell? ⟨gb144, 0, none⟩ = some (.int .i64 0) := (blk_cell BK144.out 0).trans rfl; have hcz15_1 : w14.cell? ⟨gb144, 1, none⟩ = some (.string (⟨#[]⟩ : ByteArray)) := (blk_cell BK144.out 1).trans rfl; have hcz15_2 : w14.cell? ⟨gb144, 2, none⟩ = some (.int .i64 0) := (blk_cell BK144.out 2).trans rfl; have hcz15_3 : w14.cell? ⟨gb144, 3, none⟩ = some (.int .i64 0) := (blk_cell BK144.out 3).trans rfl; have hfz15_0 := blk_frozen BK144.out 0; have hfz15_1 := blk_frozen BK144.out 1; have hfz15_2 := blk_frozen BK144.out 2; have hfz15_3 := blk_frozen BK144.out 3))
                go_roundg k1
                case measure => have := HK1.out; omega
                case rel => exact ⟨(x5_1), (wrap64 (x13_1 + 1)), (by first | rfl | (simp; done) | (simp [*]; done) | (simp [bne_nil_, beq_nil_]; done)), H', ⟨by have := HK1.out; omega⟩, ⟨by (with_reducible repeat (first | apply Kd.R_alloc | apply Kd.R_drewN | apply Kd.R_drew)); exact Kd.R_mono (Kd.R_far (p := ⟨gb144, 3, none⟩) (Kd.R_far (p := ⟨gb144, 2, none⟩) (Kd.R_far (p := ⟨gb144, 1, none⟩) (Kd.R_far (p := ⟨gb144, 0, none⟩) (Kd.R_mono HO_5.out (fun k_ hk => (⟨hk, hk.2⟩ : _ ∧ k_ ≠ gb144))) (fun _ hk => hk.2) (.int .i64 ((rd_T110 l0 x13_1).f0))) (fun _ hk => hk.2) (.string ((rd_T110 l0 x13_1).f1))) (fun _ hk => hk.2) (.int .i64 ((rd_T110 l0 x13_1).f2))) (fun _ hk => hk.2) (.int .i64 ((rd_T110 l0 x13_1).f3))) (fun _ hk => trivial)⟩, ⟨by repeat (first | (with_reducible first | exact HB.out | apply below_alloc | apply pw_below_drewN | apply below_drew1 | refine below_set ?_ GE144.out) | exact HB.out)⟩⟩
            · rw [if_neg c8] at H
              exact absurd H (by simp)
          · rw [if_neg c7] at H
            exact absurd H (by simp)
        · rw [if_neg c6] at H
          have c6b0 : decide (x13_1 < (l0.length : Int)) = false := decide_eq_false c6
          clear c6
          obtain rfl := Option.some.inj H
          go_wp2
          go_ret
          exact ⟨_, by first | rfl | (simp [errW_none, errW_some] <;> rfl) | (simp [*, errW_none, errW_some] <;> rfl) | (simp only [IntKind.wrap_u8, show ∀ n_ : Int, wrap64 (n_ % 256) = n_ % 256 from fun n_ => by unfold wrap64; omega]; rfl), by (with_reducible repeat (first | apply Kd.R_alloc | apply Kd.R_drewN | apply Kd.R_drew)); exact HO_5.out, by repeat (first | (with_reducible first | exact HB.out | apply below_alloc | apply pw_below_drewN | apply below_drew1) | exact HB.out)⟩
  · replace c4 := Bool.eq_false_iff.mpr c4
    subst c4
    have H1 : (some ([] : List (S110))) = some r := by rw [if_neg (show ¬ (false = true) by decide)] at H; exact H
    clear H
    have H := H1
    clear H1
    obtain rfl := Option.some.inj H
    go_enter Try.func26, Try.ntmps26
    go_wp2_with (first | ((with_reducible refine gate_callee (f := 80) rfl ?_); refine goesL_ (some 9) rfl rfl Try.func80 (by kernel_rfl) rfl #[.slice A0 l0.length c0] rfl (by (try simp only [List.map_toArray, List.map_cons, List.map_nil]); first | done | rfl | (simp only [List.length_drop, List.length_take]; rfl)) ?_; (with_reducible refine (impl_FeedValid.calls k _ _ l0 false _ ?side1 ?side2 A3.out).mono ?_); (case side1 => repeat (first | exact HR0.out | (with_reducible refine Kd.C_alloc ?_ _) | (with_reducible refine Kd.C_drewN ?_ _) | (with_reducible refine Kd.C_drew ?_))); (case side2 => exact HC0.out); rintro e w16 ⟨rfl, hb⟩; refine ⟨_, rfl, ?_⟩; have n0_ := Aside0.mk (below_step (by repeat (first | (with_reducible first | exact HB.out | apply below_alloc | apply pw_below_drewN | apply below_drew1) | exact HB.out)) hb); clear HB; have HB := n0_; clear n0_; (try clear hb); (try clear hb2); (try clear hk); (try clear hi)))
    go_ret
    exact ⟨_, by first | rfl | (simp [errW_none, errW_some] <;> rfl) | (simp [*, errW_none, errW_some] <;> rfl) | (simp only [IntKind.wrap_u8, show ∀ n_ : Int, wrap64 (n_ % 256) = n_ % 256 from fun n_ => by unfold wrap64; omega]; rfl), by first | exact Kd.R_nil _ _ _ _ _ | exact Kd.N_nil _ _ _ _ _ | exact Kd.V_nil _ _ _ _ _ | exact Kd.Q_nil _ _ _ _ _ | exact Kd.S_nil _ _ _ _ _, by repeat (first | (with_reducible first | exact HB.out | apply below_alloc | apply pw_below_drewN | apply below_drew1) | exact HB.out)⟩

end Go.Proofs.Ytkejaolfbejokaa.PFnExactFeedFrom
