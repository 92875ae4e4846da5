-- Written by a program of this session, in the manner of the kit's print (wip/pp.py): functions and their contracts.
import Derived.Test.YtpeifepnaecjiaaPFnTokenRunx0
import Derived.Test.YtpeifepnaecjiaaPFnTokenRunx1
import Derived.Test.YtpeifepnaecjiaaPFnTokenRunx2
namespace Go.Proofs.Ytpeifepnaecjiaa.PFnTokenRun
open Go.RowKit Go.Proofs.YtpeifepnaecjiaaW.PrintWords Go.Proofs.YtpeifepnaecjiaaW.PrintLast Go.Proofs.YtpeifepnaecjiaaW.PrintMore
attribute [local go_sem] max2_int min2_int max_two min_two max_three min_three max_four min_four   -- for this text's walks alone
set_option linter.unusedVariables false
set_option linter.unusedSimpArgs false

/-! ### spec_DrawTokenRun: function 40 -/
def spec_DrawTokenRun.l0 : Nat → Int → List Bool → Int → List Int → Int → Option (Int × List Bool)
  | 0, _, _, _, _, _ => none
  | k + 1, x5, x6, x7, x130000, x130001 => if x7 > 0 then ((spec_l20Rd_pick.f k x130000 x130001 3).bind fun bt137 => (if x6.length < 140737488355328 then (spec_DrawTokenRun.l0 k x5 (x6 ++ [decide (bt137.1 > 0)]) (wrap64 (x7 - 1)) x130000 bt137.2) else (none))) else ((spec_l20Rd_pick.f k x130000 x130001 20).bind fun bt142 => (if bt142.1 = 19 then (if 201 ≤ 281474976710656 then (some (x5, (List.replicate 201 false))) else (none)) else (some (x5, x6))))
def spec_DrawTokenRun.f (k : Nat) (l0 : List Int) : Option (Int × List Bool) := (spec_l20Open.f l0).bind fun bt127 => ((spec_l20Rd_pick.f k bt127.1 bt127.2 13).bind fun bt130 => ((spec_l20Rd_pick.f k bt127.1 bt130.2 30).bind fun bt135 => (spec_DrawTokenRun.l0 k (wrap64 (bt130.1 - 1)) (([] : List Bool)) bt135.1 bt127.1 bt135.2)))
theorem spec_DrawTokenRun.mono_l : ∀ k, (∀ y0 y1 y2 y3 y4, LeO (spec_DrawTokenRun.l0 k y0 y1 y2 y3 y4) (spec_DrawTokenRun.l0 (k + 1) y0 y1 y2 y3 y4))
  | 0 => fun _ _ _ _ _ r h => by simp [spec_DrawTokenRun.l0] at h
  | k + 1 => by
    have ih0 := spec_DrawTokenRun.mono_l k
    · intro y0 y1 y2 y3 y4
      unfold spec_DrawTokenRun.l0
      repeat' first
      | (with_reducible exact ih0 _ _ _ _ _)
      | (with_reducible exact spec_l20Rd_pick.mono _ _ _ _)
      | (with_reducible exact LeO.refl _)
      | (with_reducible exact LeO.none _)
      | (with_reducible refine LeO.ite ?_ ?_)
      | (with_reducible refine LeO.bind ?_ (fun _ => ?_))
      | exact ih0 _ _ _ _ _
      | exact spec_l20Rd_pick.mono _ _ _ _
      | exact LeO.none _
      | refine LeO.ite ?_ ?_
      | refine LeO.bind ?_ (fun _ => ?_)
theorem spec_DrawTokenRun.mono : ∀ a0 k, LeO (spec_DrawTokenRun.f k a0) (spec_DrawTokenRun.f (k + 1) a0) := by
  intro a0 k
  have ih0 := spec_DrawTokenRun.mono_l k
  unfold spec_DrawTokenRun.f
  repeat' first
      | (with_reducible exact ih0 _ _ _ _ _)
      | (with_reducible exact spec_l20Rd_pick.mono _ _ _ _)
      | (with_reducible exact LeO.refl _)
      | (with_reducible exact LeO.none _)
      | (with_reducible refine LeO.ite ?_ ?_)
      | (with_reducible refine LeO.bind ?_ (fun _ => ?_))
      | exact ih0 _ _ _ _ _
      | exact spec_l20Rd_pick.mono _ _ _ _
      | exact LeO.none _
      | refine LeO.ite ?_ ?_
      | refine LeO.bind ?_ (fun _ => ?_)
set_option maxHeartbeats 8000000 in
set_option maxRecDepth 100000 in
theorem spec_DrawTokenRun.calls (k : Nat) (A0 : Option Addr) (c0 : Nat) (l0 : List Int) (r1 : Int) (r2 : List Bool) (w : World) (hr0 : Kd.C (Kd.int .u8) w A0 l0.length l0) (hc0 : l0.length ≤ c0) (h : spec_DrawTokenRun.f k l0 = some (r1, r2)) :
    Calls Try.prog 40 #[.slice A0 l0.length c0] w fun e w' => ∃ v1_ : Value, e = .returned (.tuple #[.int .i64 r1, v1_]) ∧ Kd.R Kd.bool 4 w' w.heap.size (fun _ => True) v1_ r2 ∧ Below w.heap.size w w' := by
  have HR0 := Aside0.mk hr0
  have HC0 := Aside0.mk hc0
  clear hr0 hc0
  have HB := Aside0.mk (Below.refl w.heap.size w)
  have H : ((spec_l20Open.f l0).bind fun bt127 => ((spec_l20Rd_pick.f k bt127.1 bt127.2 13).bind fun bt130 => ((spec_l20Rd_pick.f k bt127.1 bt130.2 30).bind fun bt135 => (spec_DrawTokenRun.l0 k (wrap64 (bt130.1 - 1)) (([] : List Bool)) bt135.1 bt127.1 bt135.2)))) = some (r1, r2) := h
  clear h
  replace H := Option.bind_eq_some_iff.mp H
  obtain ⟨⟨t127, t128⟩, A20, H⟩ := H
  replace H : ((spec_l20Rd_pick.f k t127 t128 13).bind fun bt130 => ((spec_l20Rd_pick.f k t127 bt130.2 30).bind fun bt135 => (spec_DrawTokenRun.l0 k (wrap64 (bt130.1 - 1)) (([] : List Bool)) bt135.1 t127 bt135.2))) = some (r1, r2) := H
  have A2 := Aside0.mk A20
  clear A20
  replace H := Option.bind_eq_some_iff.mp H
  obtain ⟨⟨t130, t131⟩, A30, H⟩ := H
  replace H : ((spec_l20Rd_pick.f k t127 t131 30).bind fun bt135 => (spec_DrawTokenRun.l0 k (wrap64 (t130 - 1)) (([] : List Bool)) bt135.1 t127 bt135.2)) = some (r1, r2) := H
  have A3 := Aside0.mk A30
  clear A30
  obtain ⟨y132, hy132⟩ : ∃ y_ : List Bool, y_ = (([] : List Bool)) := ⟨_, rfl⟩
  replace H : ((spec_l20Rd_pick.f k t127 t131 30).bind fun bt135 => (spec_DrawTokenRun.l0 k (wrap64 (t130 - 1)) y132 bt135.1 t127 bt135.2)) = some (r1, r2) := by first | (rw [hy132]; with_reducible exact H) | (have H2_ := (Option.bind_some _ _).symm.trans H; rw [hy132]; with_reducible exact H2_) | (have H2_ := (Option.bind_some _ _).symm.trans H; with_reducible exact H2_) | with_reducible exact H | (rw [hy132]; exact H) | exact H
  have Ny132 := Aside0.mk hy132
  clear hy132
  replace H := Option.bind_eq_some_iff.mp H
  obtain ⟨⟨t135, t136⟩, A40, H⟩ := H
  replace H : (spec_DrawTokenRun.l0 k (wrap64 (t130 - 1)) y132 t135 t127 t136) = some (r1, r2) := H
  have A4 := Aside0.mk A40
  clear A40
  have H' := Aside0.mk H
  clear H
  go_enter Try.func40, Try.ntmps40
  go_wp2_with (first | ((with_reducible refine gate_callee (f := 51) rfl ?_); refine goesL_ (some 9) rfl rfl Try.func51 (by kernel_rfl) rfl #[.slice A0 l0.length c0] rfl (by (try simp only [List.map_toArray, List.map_cons, List.map_nil]); first | done | rfl | (simp only [List.length_drop, List.length_take]; rfl)) ?_; (with_reducible refine (spec_l20Open.calls _ _ l0 t127 t128 w _ ?side1 ?side2 ?side3 A2.out).mono ?_); (case side1 => repeat (first | (with_reducible first | exact HB.out | apply below_alloc | apply pw_below_drewN | apply below_drew1) | exact HB.out)); (case side2 => exact HR0.out); (case side3 => exact HC0.out); rintro e w5 ⟨g129, rfl, hi, hb, hb2⟩; refine ⟨_, rfl, ?_⟩; have n0_ := Aside0.mk (hb); have n1_ := Aside0.mk (hi); clear HB; have HB := n0_; have HI129 := n1_; clear n0_ n1_; (try clear hb); (try clear hb2); (try clear hk); (try clear hi)) | ((with_reducible refine gate_callee (f := 52) rfl ?_); refine goesL_ (some 11) rfl rfl Try.func52 (by kernel_rfl) rfl #[.pointer (some ⟨g129, 0, none⟩), .int .i64 13] rfl (by (try simp only [List.map_toArray, List.map_cons, List.map_nil]); first | done | rfl | (simp only [List.length_drop, List.length_take]; rfl)) ?_; (with_reducible refine (spec_l20Rd_pick.calls k g129 t127 t128 13 t130 t131 w _ ?side1 ?side2 A3.out).mono ?_); (case side1 => repeat (first | (with_reducible first | exact HI129.out | apply IsS86.alloc | apply IsS86.drewN | apply IsS86.drew | apply IsS86.set_1) | exact HI129.out)); (case side2 => repeat (first | (with_reducible first | exact HB.out | apply below_alloc | apply pw_below_drewN | apply below_drew1 | refine below_set ?_ (IsS86.ge HI129.out)) | exact HB.out)); rintro e w6 ⟨rfl, hi, hb, hk⟩; refine ⟨_, rfl, ?_⟩; have n0_ := Aside0.mk (hb); have n1_ := Aside0.mk (hi); clear HB; clear HI129; have HB := n0_; have HI129 := n1_; clear n0_ n1_; (try clear hb); (try clear hb2); (try clear hk); (try clear hi)) | ((with_reducible refine gate_dst (N := 13) rfl ?_); refine Kd.R_lit Kd.bool _ 4 ?hg (N := 13) ?hd (xs := ([] : List Bool)) (inner := []) (ok := fun _ => True) (okp := fun _ => True) ?hr ?hp (fun _ hk => hk) trivial (Below.refl _ _) (Nat.le_refl _) (by simp) ?_; (case hd => rfl); (case hg => rfl); (case hr => first | (go_simp; done) | (go_simp; rfl)); (case hp => exact (Reps.none _ _)); intro v133 w7 ho8 hb hg_ hnew_; clear hg_ hnew_; (first | rw [← Ny132.out] at ho8 | (simp only [Int.reduceToNat] at ho8; rw [← Ny132.out] at ho8)); have n0_ := Aside0.mk (Kd.R_lower ho8 (below_size (by repeat (first | (with_reducible first | exact HB.out | apply below_alloc | apply pw_below_drewN | apply below_drew1 | refine below_set ?_ (IsS86.ge HI129.out)) | exact HB.out)))); have n1_ := Aside0.mk (IsS86.below (by repeat (first | (with_reducible first | exact HI129.out | apply IsS86.alloc | apply IsS86.drewN | apply IsS86.drew | apply IsS86.set_1) | exact HI129.out)) hb); have n2_ := Aside0.mk (below_step (by repeat (first | (with_reducible first | exact HB.out | apply below_alloc | apply pw_below_drewN | apply below_drew1 | refine below_set ?_ (IsS86.ge HI129.out)) | exact HB.out)) hb); clear HI129; clear HB; have HO134 := n0_; have HI129 := n1_; have HB := n2_; clear n0_ n1_ n2_; clear hb ho8) | ((with_reducible refine gate_callee (f := 52) rfl ?_); refine goesL_ (some 15) rfl rfl Try.func52 (by kernel_rfl) rfl #[.pointer (some ⟨g129, 0, none⟩), .int .i64 30] rfl (by (try simp only [List.map_toArray, List.map_cons, List.map_nil]); first | done | rfl | (simp only [List.length_drop, List.length_take]; rfl)) ?_; (with_reducible refine (spec_l20Rd_pick.calls k g129 t127 t131 30 t135 t136 w _ ?side1 ?side2 A4.out).mono ?_); (case side1 => repeat (first | (with_reducible first | exact HI129.out | apply IsS86.alloc | apply IsS86.drewN | apply IsS86.drew | apply IsS86.set_1) | exact HI129.out)); (case side2 => repeat (first | (with_reducible first | exact HB.out | apply below_alloc | apply pw_below_drewN | apply below_drew1 | refine below_set ?_ (IsS86.ge HI129.out)) | exact HB.out)); rintro e w9 ⟨rfl, hi, hb, hk⟩; refine ⟨_, rfl, ?_⟩; have n0_ := Aside0.mk (Kd.R_mono (Kd.R_keep (IsS86.apart (show IsS86 w _ g129 t127 t131 from by repeat (first | (with_reducible first | exact HI129.out | apply IsS86.alloc | apply IsS86.drewN | apply IsS86.drew | apply IsS86.set_1) | exact HI129.out)) (by (with_reducible repeat (first | apply Kd.R_alloc | apply Kd.R_drewN | apply Kd.R_drew)); exact HO134.out) (by decide)) hk (fun _ h => h.2)) (fun _ h => h.1)); have n1_ := Aside0.mk (hb); have n2_ := Aside0.mk (hi); clear HO134; clear HB; clear HI129; have HO134 := n0_; have HB := n1_; have HI129 := n2_; clear n0_ n1_ n2_; (try clear hb); (try clear hb2); (try clear hk); (try clear hi)))
  go_loopg [6, 7] k (fun kq v6 v7 w' => ∃ (x6_1 : List Bool) (x7_1 : Int) (x130001_1 : Int), v7 = .int .i64 x7_1 ∧ Aside0 (spec_DrawTokenRun.l0 kq (wrap64 (t130 - 1)) x6_1 x7_1 t127 x130001_1 = some (r1, r2)) ∧ Aside0 (kq ≤ k) ∧ Aside0 (Kd.R Kd.bool 4 w' w.heap.size (fun _ => True) v6 x6_1) ∧ Aside0 (IsS86 w w' g129 t127 x130001_1) ∧ Aside0 (Below w.heap.size w w'))
  case atStart => exact ⟨(y132), (t135), (t136), (by first | rfl | (simp; done) | (simp [*]; done)), H', ⟨Nat.le_refl _⟩, ⟨by (with_reducible repeat (first | apply Kd.R_alloc | apply Kd.R_drewN | apply Kd.R_drew)); exact HO134.out⟩, ⟨by repeat (first | (with_reducible first | exact HI129.out | apply IsS86.alloc | apply IsS86.drewN | apply IsS86.drew | apply IsS86.set_1) | exact HI129.out)⟩, ⟨by repeat (first | (with_reducible first | exact HB.out | apply below_alloc | apply pw_below_drewN | apply below_drew1 | refine below_set ?_ (IsS86.ge HI129.out)) | exact HB.out)⟩⟩
  case round =>
    clear H'
    try clear p2
    try clear c4
    try clear c5
    try clear p6
    obtain ⟨x6_1, x7_1, x130001_1, rfl, HA, HK1, HO_6, HI129, HB⟩ := hrel
    cases gk with
    | zero => exact absurd HA.out (by simp [spec_DrawTokenRun.l0])
    | succ k1 =>
      have H := HA.out
      clear HA
      simp only [spec_DrawTokenRun.l0] at H
      by_cases c10 : x7_1 > 0
      · rw [if_pos c10] at H
        have c10b0 : decide (0 < x7_1) = true := decide_eq_true c10
        clear c10
        replace H := Option.bind_eq_some_iff.mp H
        obtain ⟨⟨t137, t138⟩, A110, H⟩ := H
        replace H : (if x6_1.length < 140737488355328 then (spec_DrawTokenRun.l0 k1 (wrap64 (t130 - 1)) (x6_1 ++ [decide (t137 > 0)]) (wrap64 (x7_1 - 1)) t127 t138) else (none)) = some (r1, r2) := H
        have A11 := Aside0.mk A110
        clear A110
        by_cases c12 : x6_1.length < 140737488355328
        · rw [if_pos c12] at H
          have LMc12 := Aside0.mk c12
          clear c12
          obtain ⟨y139, hy139⟩ : ∃ y_ : List Bool, y_ = (x6_1 ++ [decide (t137 > 0)]) := ⟨_, rfl⟩
          replace H : (spec_DrawTokenRun.l0 k1 (wrap64 (t130 - 1)) y139 (wrap64 (x7_1 - 1)) t127 t138) = some (r1, r2) := by first | (rw [hy139]; with_reducible exact H) | (have H2_ := (Option.bind_some _ _).symm.trans H; rw [hy139]; with_reducible exact H2_) | (have H2_ := (Option.bind_some _ _).symm.trans H; with_reducible exact H2_) | with_reducible exact H | (rw [hy139]; exact H) | exact H
          have Ny139 := Aside0.mk hy139
          clear hy139
          have H' := Aside0.mk H
          clear H
          go_wp2_with (first | ((with_reducible refine gate_callee (f := 52) rfl ?_); refine goesL_ (some 22) rfl rfl Try.func52 (by kernel_rfl) rfl #[.pointer (some ⟨g129, 0, none⟩), .int .i64 3] rfl (by (try simp only [List.map_toArray, List.map_cons, List.map_nil]); first | done | rfl | (simp only [List.length_drop, List.length_take]; rfl)) ?_; (with_reducible refine (spec_l20Rd_pick.calls k1 g129 t127 x130001_1 3 t137 t138 w _ ?side1 ?side2 A11.out).mono ?_); (case side1 => repeat (first | (with_reducible first | exact HI129.out | apply IsS86.alloc | apply IsS86.drewN | apply IsS86.drew | apply IsS86.set_1) | exact HI129.out)); (case side2 => repeat (first | (with_reducible first | exact HB.out | apply below_alloc | apply pw_below_drewN | apply below_drew1 | refine below_set ?_ (IsS86.ge HI129.out)) | exact HB.out)); rintro e w13 ⟨rfl, hi, hb, hk⟩; refine ⟨_, rfl, ?_⟩; have n0_ := Aside0.mk (Kd.R_mono (Kd.R_keep (IsS86.apart (show IsS86 w _ g129 t127 x130001_1 from by repeat (first | (with_reducible first | exact HI129.out | apply IsS86.alloc | apply IsS86.drewN | apply IsS86.drew | apply IsS86.set_1) | exact HI129.out)) (by (with_reducible repeat (first | apply Kd.R_alloc | apply Kd.R_drewN | apply Kd.R_drew)); exact HO_6.out) (by decide)) hk (fun _ h => h.2)) (fun _ h => h.1)); have n1_ := Aside0.mk (hb); have n2_ := Aside0.mk (hi); clear HO_6; clear HB; clear HI129; have HO_6 := n0_; have HB := n1_; have HI129 := n2_; clear n0_ n1_ n2_; (try clear hb); (try clear hb2); (try clear hk); (try clear hi)) | ((with_reducible refine gate_builtin (b := .append) (xs := #[.tmp 20, .tmp 24]) rfl ?_); at_builtin; refine Kd.R_append Kd.bool (w0 := w) w.heap.size rfl (.tmp 20) (.tmp 24) 31 4 (.bool false) 1 rfl Try.underlying31 info4 rfl (by decide) (by omega) u6 x6_1 (decide (t137 > 0)) [.bool (decide (t137 > 0))] (fun _ => True) (fun _ => False) rfl rfl ?aP (fun _ hk => hk.elim) ?aF ?aO ?aB ?aS ?aL ?_; (case aP => exact rfl); (case aB => exact (by repeat (first | (with_reducible first | exact HB.out | apply below_alloc | apply pw_below_drewN | apply below_drew1 | refine below_set ?_ (IsS86.ge HI129.out)) | exact HB.out))); (case aF => exact (fun _ _ => trivial)); (case aO => exact (by (with_reducible repeat (first | apply Kd.R_alloc | apply Kd.R_drewN | apply Kd.R_drew)); exact HO_6.out)); (case aS => exact (below_size (by repeat (first | (with_reducible first | exact HB.out | apply below_alloc | apply pw_below_drewN | apply below_drew1 | refine below_set ?_ (IsS86.ge HI129.out)) | exact HB.out)))); (case aL => have := LMc12.out; omega); intro v140 w14 ho hb hg hat; rw [← Ny139.out] at ho; have n0_ := Aside0.mk (IsS86.grown (by repeat (first | (with_reducible first | exact HI129.out | apply IsS86.alloc | apply IsS86.drewN | apply IsS86.drew | apply IsS86.set_1) | exact HI129.out)) hg (IsS86.own_ne HI129.out HO_6.out (by decide))); have n1_ := Aside0.mk (hb); have n2_ := Aside0.mk (ho); clear HI129; clear HB; clear HO_6; have HI129 := n0_; have HB := n1_; have HO141 := n2_; clear n0_ n1_ n2_; clear ho hb hg hat))
          go_roundg k1
          case measure => have := HK1.out; omega
          case rel => exact ⟨(y139), (wrap64 (x7_1 - 1)), (t138), (by first | rfl | (simp; done) | (simp [*]; done)), H', ⟨by have := HK1.out; omega⟩, ⟨by (with_reducible repeat (first | apply Kd.R_alloc | apply Kd.R_drewN | apply Kd.R_drew)); exact HO141.out⟩, ⟨by repeat (first | (with_reducible first | exact HI129.out | apply IsS86.alloc | apply IsS86.drewN | apply IsS86.drew | apply IsS86.set_1) | exact HI129.out)⟩, ⟨by repeat (first | (with_reducible first | exact HB.out | apply below_alloc | apply pw_below_drewN | apply below_drew1 | refine below_set ?_ (IsS86.ge HI129.out)) | exact HB.out)⟩⟩
        · rw [if_neg c12] at H
          exact absurd H (by simp)
      · rw [if_neg c10] at H
        have c10b0 : decide (0 < x7_1) = false := decide_eq_false c10
        clear c10
        replace H := Option.bind_eq_some_iff.mp H
        obtain ⟨⟨t142, t143⟩, A150, H⟩ := H
        replace H : (if t142 = 19 then (if 201 ≤ 281474976710656 then (some ((wrap64 (t130 - 1)), (List.replicate 201 false))) else (none)) else (some ((wrap64 (t130 - 1)), x6_1))) = some (r1, r2) := H
        have A15 := Aside0.mk A150
        clear A150
        by_cases c16 : t142 = 19
        · rw [if_pos c16] at H
          have c16b0 : (t142 == 19) = true := beq_iff_eq.mpr c16
          have c16b1 : (t142 != 19) = false := bne_eq_false_iff_eq.mpr c16
          clear c16
          by_cases c17 : 201 ≤ 281474976710656
          · rw [if_pos c17] at H
            have c17b0 := eq_true c17
            have c17b1 : decide (201 ≤ 281474976710656) = true := decide_eq_true c17
            clear c17
            obtain ⟨y144, hy144⟩ : ∃ y_ : List Bool, y_ = (List.replicate 201 false) := ⟨_, rfl⟩
            replace H : (some ((wrap64 (t130 - 1)), y144)) = some (r1, r2) := by first | (rw [hy144]; with_reducible exact H) | (have H2_ := (Option.bind_some _ _).symm.trans H; rw [hy144]; with_reducible exact H2_) | (have H2_ := (Option.bind_some _ _).symm.trans H; with_reducible exact H2_) | with_reducible exact H | (rw [hy144]; exact H) | exact H
            have Ny144 := Aside0.mk hy144
            clear hy144
            simp only [Option.some.injEq, Prod.mk.injEq] at H
            obtain ⟨rfl, rfl⟩ := H
            go_wp2_with (first | ((with_reducible refine gate_callee (f := 52) rfl ?_); refine goesL_ (some 27) rfl rfl Try.func52 (by kernel_rfl) rfl #[.pointer (some ⟨g129, 0, none⟩), .int .i64 20] rfl (by (try simp only [List.map_toArray, List.map_cons, List.map_nil]); first | done | rfl | (simp only [List.length_drop, List.length_take]; rfl)) ?_; (with_reducible refine (spec_l20Rd_pick.calls k1 g129 t127 x130001_1 20 t142 t143 w _ ?side1 ?side2 A15.out).mono ?_); (case side1 => repeat (first | (with_reducible first | exact HI129.out | apply IsS86.alloc | apply IsS86.drewN | apply IsS86.drew | apply IsS86.set_1) | exact HI129.out)); (case side2 => repeat (first | (with_reducible first | exact HB.out | apply below_alloc | apply pw_below_drewN | apply below_drew1 | refine below_set ?_ (IsS86.ge HI129.out)) | exact HB.out)); rintro e w18 ⟨rfl, hi, hb, hk⟩; refine ⟨_, rfl, ?_⟩; have n0_ := Aside0.mk (Kd.R_mono (Kd.R_keep (IsS86.apart (show IsS86 w _ g129 t127 x130001_1 from by repeat (first | (with_reducible first | exact HI129.out | apply IsS86.alloc | apply IsS86.drewN | apply IsS86.drew | apply IsS86.set_1) | exact HI129.out)) (by (with_reducible repeat (first | apply Kd.R_alloc | apply Kd.R_drewN | apply Kd.R_drew)); exact HO_6.out) (by decide)) hk (fun _ h => h.2)) (fun _ h => h.1)); have n1_ := Aside0.mk (hb); have n2_ := Aside0.mk (hi); clear HO_6; clear HB; clear HI129; have HO_6 := n0_; have HB := n1_; have HI129 := n2_; clear n0_ n1_ n2_; (try clear hb); (try clear hb2); (try clear hk); (try clear hi)) | ((with_reducible refine gate_dst (N := 29) rfl ?_); refine Kd.R_make Kd.bool _ 4 rfl (N := 29) rfl 31 _ _ rfl 201 rfl rfl Try.underlying31 (.bool false) 1 info4 rfl (by decide) (by omega) false (ok := fun _ => True) (okp := fun _ => True) rfl (fun _ hk => hk) trivial (by omega) (by omega) (Below.refl _ _) (Nat.le_refl _) ?_; intro v145 w19 ho20 hb hg_ hnew_; clear hg_ hnew_; (first | rw [← Ny144.out] at ho20 | (simp only [Int.reduceToNat] at ho20; rw [← Ny144.out] at ho20)); have n0_ := Aside0.mk (Kd.R_elder' (by (with_reducible repeat (first | apply Kd.R_alloc | apply Kd.R_drewN | apply Kd.R_drew)); exact HO_6.out) (Kd.R_base ho20) hb); have n1_ := Aside0.mk (Kd.R_lower (Kd.R_new' ho20 (Kd.R_lt (by (with_reducible repeat (first | apply Kd.R_alloc | apply Kd.R_drewN | apply Kd.R_drew)); exact HO_6.out))) (below_size (by repeat (first | (with_reducible first | exact HB.out | apply below_alloc | apply pw_below_drewN | apply below_drew1 | refine below_set ?_ (IsS86.ge HI129.out)) | exact HB.out)))); have n2_ := Aside0.mk (IsS86.below (by repeat (first | (with_reducible first | exact HI129.out | apply IsS86.alloc | apply IsS86.drewN | apply IsS86.drew | apply IsS86.set_1) | exact HI129.out)) hb); have n3_ := Aside0.mk (below_step (by repeat (first | (with_reducible first | exact HB.out | apply below_alloc | apply pw_below_drewN | apply below_drew1 | refine below_set ?_ (IsS86.ge HI129.out)) | exact HB.out)) hb); clear HO_6; clear HI129; clear HB; have HO_6 := n0_; have HO146 := n1_; have HI129 := n2_; have HB := n3_; clear n0_ n1_ n2_ n3_; clear hb ho20))
            go_ret2
            exact ⟨_, by first | rfl | (simp [errW_none, errW_some] <;> rfl) | (simp [*, errW_none, errW_some] <;> rfl) | (simp only [IntKind.wrap_u8, show ∀ n_ : Int, wrap64 (n_ % 256) = n_ % 256 from fun n_ => by unfold wrap64; omega]; rfl), by (with_reducible repeat (first | apply Kd.R_alloc | apply Kd.R_drewN | apply Kd.R_drew)); exact Kd.R_mono HO146.out (fun _ hk => trivial), by repeat (first | (with_reducible first | exact HB.out | apply below_alloc | apply pw_below_drewN | apply below_drew1 | refine below_set ?_ (IsS86.ge HI129.out)) | exact HB.out)⟩
          · rw [if_neg c17] at H
            exact absurd H (by simp)
        · rw [if_neg c16] at H
          have c16b0 : (t142 == 19) = false := beq_eq_false_iff_ne.mpr c16
          have c16b1 : (t142 != 19) = true := bne_iff_ne.mpr c16
          simp only [Option.some.injEq, Prod.mk.injEq] at H
          obtain ⟨rfl, rfl⟩ := H
          go_wp2_with (first | ((with_reducible refine gate_callee (f := 52) rfl ?_); refine goesL_ (some 27) rfl rfl Try.func52 (by kernel_rfl) rfl #[.pointer (some ⟨g129, 0, none⟩), .int .i64 20] rfl (by (try simp only [List.map_toArray, List.map_cons, List.map_nil]); first | done | rfl | (simp only [List.length_drop, List.length_take]; rfl)) ?_; (with_reducible refine (spec_l20Rd_pick.calls k1 g129 t127 x130001_1 20 t142 t143 w _ ?side1 ?side2 A15.out).mono ?_); (case side1 => repeat (first | (with_reducible first | exact HI129.out | apply IsS86.alloc | apply IsS86.drewN | apply IsS86.drew | apply IsS86.set_1) | exact HI129.out)); (case side2 => repeat (first | (with_reducible first | exact HB.out | apply below_alloc | apply pw_below_drewN | apply below_drew1 | refine below_set ?_ (IsS86.ge HI129.out)) | exact HB.out)); rintro e w21 ⟨rfl, hi, hb, hk⟩; refine ⟨_, rfl, ?_⟩; have n0_ := Aside0.mk (Kd.R_mono (Kd.R_keep (IsS86.apart (show IsS86 w _ g129 t127 x130001_1 from by repeat (first | (with_reducible first | exact HI129.out | apply IsS86.alloc | apply IsS86.drewN | apply IsS86.drew | apply IsS86.set_1) | exact HI129.out)) (by (with_reducible repeat (first | apply Kd.R_alloc | apply Kd.R_drewN | apply Kd.R_drew)); exact HO_6.out) (by decide)) hk (fun _ h => h.2)) (fun _ h => h.1)); have n1_ := Aside0.mk (hb); have n2_ := Aside0.mk (hi); clear HO_6; clear HB; clear HI129; have HO_6 := n0_; have HB := n1_; have HI129 := n2_; clear n0_ n1_ n2_; (try clear hb); (try clear hb2); (try clear hk); (try clear hi)))
          go_ret2
          exact ⟨_, by first | rfl | (simp [errW_none, errW_some] <;> rfl) | (simp [*, errW_none, errW_some] <;> rfl) | (simp only [IntKind.wrap_u8, show ∀ n_ : Int, wrap64 (n_ % 256) = n_ % 256 from fun n_ => by unfold wrap64; omega]; rfl), by (with_reducible repeat (first | apply Kd.R_alloc | apply Kd.R_drewN | apply Kd.R_drew)); exact HO_6.out, by repeat (first | (with_reducible first | exact HB.out | apply below_alloc | apply pw_below_drewN | apply below_drew1 | refine below_set ?_ (IsS86.ge HI129.out)) | exact HB.out)⟩

/-! ### laws_FnTokenRun: function 12 -/
mutual
def laws_FnTokenRun.j0 : Nat → Int → List Bool → Int → Int → Bool → Option (Bool)
  | 0, _, _, _, _, _ => none
  | k + 1, x3, x4, x5, x6, x43 => if x43 = true then (some false) else (if x5 < 0 then (if x5 = (-1) then (if x6 = (-1) then ((laws_alive.f k).bind fun t155 => (some t155)) else (some false)) else (some false)) else (laws_FnTokenRun.l0 k x3 x4 x5 x6 0 0))
def laws_FnTokenRun.l0 : Nat → Int → List Bool → Int → Int → Int → Int → Option (Bool)
  | 0, _, _, _, _, _, _ => none
  | k + 1, x3, x4, x5, x6, x9, x10 => if x10 < (x4.length : Int) then (if 0 ≤ x10 then (if rdOf false x4 x10 = true then (laws_FnTokenRun.l0 k x3 x4 x5 x6 (wrap64 (x9 + 1)) (wrap64 (x10 + 1))) else (laws_FnTokenRun.l0 k x3 x4 x5 x6 x9 (wrap64 (x10 + 1)))) else (none)) else (if 0 ≤ (wrap64 ((x4.length : Int) / 2)) then (if (wrap64 ((x4.length : Int) / 2)) ≤ (x4.length : Int) then ((impl_TokenRun.f k x3 (x4.take ((wrap64 ((x4.length : Int) / 2)) : Int).toNat)).bind fun bt161 => ((impl_TokenRun.f k bt161.1 (x4.drop ((wrap64 ((x4.length : Int) / 2)) : Int).toNat)).bind fun bt167 => (if (wrap64 (3 * x6)) ≤ (wrap64 (x3 + x9)) then (if bt167.1 = x5 then (some ((wrap64 (bt161.2 + bt167.2)) == x6)) else (some false)) else (some false)))) else (none)) else (none))
end
def laws_FnTokenRun.f (k : Nat) (l0 : List Int) : Option (Bool) := if (l0.length : Int) > 1048576 then (some true) else ((spec_DrawTokenRun.f k l0).bind fun bt147 => ((impl_TokenRun.f k bt147.1 bt147.2).bind fun bt151 => ((spec_TokenRun.f k bt147.1 bt147.2).bind fun bt153 => (if bt151.1 = bt153.1 then (laws_FnTokenRun.j0 k bt147.1 bt147.2 bt151.1 bt151.2 (bt151.2 != bt153.2)) else (laws_FnTokenRun.j0 k bt147.1 bt147.2 bt151.1 bt151.2 true)))))
theorem laws_FnTokenRun.mono_l : ∀ k, (∀ y0 y1 y2 y3 y4, LeO (laws_FnTokenRun.j0 k y0 y1 y2 y3 y4) (laws_FnTokenRun.j0 (k + 1) y0 y1 y2 y3 y4)) ∧ (∀ y0 y1 y2 y3 y4 y5, LeO (laws_FnTokenRun.l0 k y0 y1 y2 y3 y4 y5) (laws_FnTokenRun.l0 (k + 1) y0 y1 y2 y3 y4 y5))
  | 0 => ⟨fun _ _ _ _ _ r h => by simp [laws_FnTokenRun.j0] at h, fun _ _ _ _ _ _ r h => by simp [laws_FnTokenRun.l0] at h⟩
  | k + 1 => by
    obtain ⟨ih0, ih1⟩ := laws_FnTokenRun.mono_l k
    refine ⟨?_, ?_⟩
    · intro y0 y1 y2 y3 y4
      unfold laws_FnTokenRun.j0
      repeat' first
      | (with_reducible exact ih0 _ _ _ _ _)
      | (with_reducible exact ih1 _ _ _ _ _ _)
      | (with_reducible exact impl_TokenRun.mono _ _ _)
      | (with_reducible exact laws_alive.mono _)
      | (with_reducible exact spec_DrawTokenRun.mono _ _)
      | (with_reducible exact spec_TokenRun.mono _ _ _)
      | (with_reducible exact LeO.refl _)
      | (with_reducible exact LeO.none _)
      | (with_reducible refine LeO.ite ?_ ?_)
      | (with_reducible refine LeO.bind ?_ (fun _ => ?_))
      | exact ih0 _ _ _ _ _
      | exact ih1 _ _ _ _ _ _
      | exact impl_TokenRun.mono _ _ _
      | exact laws_alive.mono _
      | exact spec_DrawTokenRun.mono _ _
      | exact spec_TokenRun.mono _ _ _
      | exact LeO.none _
      | refine LeO.ite ?_ ?_
      | refine LeO.bind ?_ (fun _ => ?_)
    · intro y0 y1 y2 y3 y4 y5
      unfold laws_FnTokenRun.l0
      repeat' first
      | (with_reducible exact ih0 _ _ _ _ _)
      | (with_reducible exact ih1 _ _ _ _ _ _)
      | (with_reducible exact impl_TokenRun.mono _ _ _)
      | (with_reducible exact laws_alive.mono _)
      | (with_reducible exact spec_DrawTokenRun.mono _ _)
      | (with_reducible exact spec_TokenRun.mono _ _ _)
      | (with_reducible exact LeO.refl _)
      | (with_reducible exact LeO.none _)
      | (with_reducible refine LeO.ite ?_ ?_)
      | (with_reducible refine LeO.bind ?_ (fun _ => ?_))
      | exact ih0 _ _ _ _ _
      | exact ih1 _ _ _ _ _ _
      | exact impl_TokenRun.mono _ _ _
      | exact laws_alive.mono _
      | exact spec_DrawTokenRun.mono _ _
      | exact spec_TokenRun.mono _ _ _
      | exact LeO.none _
      | refine LeO.ite ?_ ?_
      | refine LeO.bind ?_ (fun _ => ?_)
theorem laws_FnTokenRun.mono : ∀ a0 k, LeO (laws_FnTokenRun.f k a0) (laws_FnTokenRun.f (k + 1) a0) := by
  intro a0 k
  obtain ⟨ih0, ih1⟩ := laws_FnTokenRun.mono_l k
  unfold laws_FnTokenRun.f
  repeat' first
      | (with_reducible exact ih0 _ _ _ _ _)
      | (with_reducible exact ih1 _ _ _ _ _ _)
      | (with_reducible exact impl_TokenRun.mono _ _ _)
      | (with_reducible exact laws_alive.mono _)
      | (with_reducible exact spec_DrawTokenRun.mono _ _)
      | (with_reducible exact spec_TokenRun.mono _ _ _)
      | (with_reducible exact LeO.refl _)
      | (with_reducible exact LeO.none _)
      | (with_reducible refine LeO.ite ?_ ?_)
      | (with_reducible refine LeO.bind ?_ (fun _ => ?_))
      | exact ih0 _ _ _ _ _
      | exact ih1 _ _ _ _ _ _
      | exact impl_TokenRun.mono _ _ _
      | exact laws_alive.mono _
      | exact spec_DrawTokenRun.mono _ _
      | exact spec_TokenRun.mono _ _ _
      | exact LeO.none _
      | refine LeO.ite ?_ ?_
      | refine LeO.bind ?_ (fun _ => ?_)
set_option maxHeartbeats 8000000 in
set_option maxRecDepth 100000 in
theorem laws_FnTokenRun.calls (k : Nat) (A0 : Option Addr) (c0 : Nat) (l0 : List Int) (r : Bool) (w : World) (hr0 : Kd.C (Kd.int .u8) w A0 l0.length l0) (hc0 : l0.length ≤ c0) (h : laws_FnTokenRun.f k l0 = some r) (hrt : Aside0 (r = true)) :
    Calls Try.prog 12 #[.slice A0 l0.length c0] w fun e w' => e = .returned (.bool r) ∧ Below w.heap.size w w' := by
  have HR0 := Aside0.mk hr0
  have HC0 := Aside0.mk hc0
  clear hr0 hc0
  have HB := Aside0.mk (Below.refl w.heap.size w)
  have H : (if (l0.length : Int) > 1048576 then (some true) else ((spec_DrawTokenRun.f k l0).bind fun bt147 => ((impl_TokenRun.f k bt147.1 bt147.2).bind fun bt151 => ((spec_TokenRun.f k bt147.1 bt147.2).bind fun bt153 => (if bt151.1 = bt153.1 then (laws_FnTokenRun.j0 k bt147.1 bt147.2 bt151.1 bt151.2 (bt151.2 != bt153.2)) else (laws_FnTokenRun.j0 k bt147.1 bt147.2 bt151.1 bt151.2 true)))))) = some r := h
  clear h
  by_cases c2 : (l0.length : Int) > 1048576
  · rw [if_pos c2] at H
    have c2b0 : decide (1048576 < (l0.length : Int)) = true := decide_eq_true c2
    have c2b1 : decide (1048576 < l0.length) = true := decide_eq_true (by omega)
    clear c2
    obtain rfl := Option.some.inj H
    go_enter Try.func12, Try.ntmps12
    go_wp2
    go_ret
    exact ⟨by first | rfl | (simp [errW_none, errW_some] <;> rfl) | (simp [*, errW_none, errW_some] <;> rfl) | (simp only [IntKind.wrap_u8, show ∀ n_ : Int, wrap64 (n_ % 256) = n_ % 256 from fun n_ => by unfold wrap64; omega]; rfl), by repeat (first | (with_reducible first | exact HB.out | apply below_alloc | apply pw_below_drewN | apply below_drew1) | exact HB.out)⟩
  · rw [if_neg c2] at H
    have c2b0 : decide (1048576 < (l0.length : Int)) = false := decide_eq_false c2
    have c2b1 : decide (1048576 < l0.length) = false := decide_eq_false (by omega)
    clear c2
    replace H := Option.bind_eq_some_iff.mp H
    obtain ⟨⟨t147, t148⟩, A30, H⟩ := H
    replace H : ((impl_TokenRun.f k t147 t148).bind fun bt151 => ((spec_TokenRun.f k t147 t148).bind fun bt153 => (if bt151.1 = bt153.1 then (laws_FnTokenRun.j0 k t147 t148 bt151.1 bt151.2 (bt151.2 != bt153.2)) else (laws_FnTokenRun.j0 k t147 t148 bt151.1 bt151.2 true)))) = some r := H
    have A3 := Aside0.mk A30
    clear A30
    replace H := Option.bind_eq_some_iff.mp H
    obtain ⟨⟨t151, t152⟩, A40, H⟩ := H
    replace H : ((spec_TokenRun.f k t147 t148).bind fun bt153 => (if t151 = bt153.1 then (laws_FnTokenRun.j0 k t147 t148 t151 t152 (t152 != bt153.2)) else (laws_FnTokenRun.j0 k t147 t148 t151 t152 true))) = some r := H
    have A4 := Aside0.mk A40
    clear A40
    replace H := Option.bind_eq_some_iff.mp H
    obtain ⟨⟨t153, t154⟩, A50, H⟩ := H
    replace H : (if t151 = t153 then (laws_FnTokenRun.j0 k t147 t148 t151 t152 (t152 != t154)) else (laws_FnTokenRun.j0 k t147 t148 t151 t152 true)) = some r := H
    have A5 := Aside0.mk A50
    clear A50
    have HC6 := Aside0.mk H
    clear H
    go_enter Try.func12, Try.ntmps12
    go_upto_region 6 with (first | ((with_reducible refine gate_callee (f := 40) rfl ?_); refine goesL_ (some 21) rfl rfl Try.func40 (by kernel_rfl) rfl #[.slice A0 l0.length c0] rfl (by (try simp only [List.map_toArray, List.map_cons, List.map_nil]); first | done | rfl | (simp only [List.length_drop, List.length_take]; rfl)) ?_; (with_reducible refine (spec_DrawTokenRun.calls k _ _ l0 t147 t148 _ ?side1 ?side2 A3.out).mono ?_); (case side1 => repeat (first | exact HR0.out | (with_reducible refine Kd.C_alloc ?_ _) | (with_reducible refine Kd.C_drewN ?_ _) | (with_reducible refine Kd.C_drew ?_))); (case side2 => exact HC0.out); rintro e w7 ⟨v149, rfl, ho0, hb⟩; refine ⟨_, rfl, ?_⟩; have n0_ := Aside0.mk (Kd.R_lower ho0 (below_size (by repeat (first | (with_reducible first | exact HB.out | apply below_alloc | apply pw_below_drewN | apply below_drew1) | exact HB.out)))); have n1_ := Aside0.mk (below_step (by repeat (first | (with_reducible first | exact HB.out | apply below_alloc | apply pw_below_drewN | apply below_drew1) | exact HB.out)) hb); clear HB; have HO150 := n0_; have HB := n1_; clear n0_ n1_; (try clear hb); (try clear hb2); (try clear hk); (try clear hi); (try clear ho0); obtain ⟨Ao8, co8, eo8⟩ := Kd.R_slice HO150.out; subst eo8) | ((with_reducible refine gate_callee (f := 25) rfl ?_); refine goesL_ (some 27) rfl rfl Try.func25 (by kernel_rfl) rfl #[.int .i64 t147, .slice Ao8 t148.length co8] rfl (by (try simp only [List.map_toArray, List.map_cons, List.map_nil]); first | done | rfl | (simp only [List.length_drop, List.length_take]; rfl)) ?_; (with_reducible refine (impl_TokenRun.calls k t147 _ _ t148 t151 t152 _ ?side1 ?side2 A4.out).mono ?_); (case side1 => repeat (first | exact (Kd.R_reads' HO150.out).2.2 | (with_reducible refine Kd.C_alloc ?_ _) | (with_reducible refine Kd.C_drewN ?_ _) | (with_reducible refine Kd.C_drew ?_))); (case side2 => exact (Kd.R_reads' HO150.out).2.1); rintro e w9 ⟨rfl, hb⟩; refine ⟨_, rfl, ?_⟩; have n0_ := Aside0.mk (Kd.R_below (by (with_reducible repeat (first | apply Kd.R_alloc | apply Kd.R_drewN | apply Kd.R_drew)); exact HO150.out) hb); have n1_ := Aside0.mk (below_step (by repeat (first | (with_reducible first | exact HB.out | apply below_alloc | apply pw_below_drewN | apply below_drew1) | exact HB.out)) hb); clear HO150; clear HB; have HO150 := n0_; have HB := n1_; clear n0_ n1_; (try clear hb); (try clear hb2); (try clear hk); (try clear hi)) | ((with_reducible refine gate_callee (f := 23) rfl ?_); refine goesL_ (some 33) rfl rfl Try.func23 (by kernel_rfl) rfl #[.int .i64 t147, .slice Ao8 t148.length co8] rfl (by (try simp only [List.map_toArray, List.map_cons, List.map_nil]); first | done | rfl | (simp only [List.length_drop, List.length_take]; rfl)) ?_; (with_reducible refine (spec_TokenRun.calls k t147 _ _ t148 t153 t154 _ ?side1 ?side2 A5.out).mono ?_); (case side1 => repeat (first | exact (Kd.R_reads' HO150.out).2.2 | (with_reducible refine Kd.C_alloc ?_ _) | (with_reducible refine Kd.C_drewN ?_ _) | (with_reducible refine Kd.C_drew ?_))); (case side2 => exact (Kd.R_reads' HO150.out).2.1); rintro e w10 ⟨rfl, hb⟩; refine ⟨_, rfl, ?_⟩; have n0_ := Aside0.mk (Kd.R_below (by (with_reducible repeat (first | apply Kd.R_alloc | apply Kd.R_drewN | apply Kd.R_drew)); exact HO150.out) hb); have n1_ := Aside0.mk (below_step (by repeat (first | (with_reducible first | exact HB.out | apply below_alloc | apply pw_below_drewN | apply below_drew1) | exact HB.out)) hb); clear HO150; clear HB; have HO150 := n0_; have HB := n1_; clear n0_ n1_; (try clear hb); (try clear hb2); (try clear hk); (try clear hi)))
    (try simp only [Act.put, List.setIfInBounds_toArray, List.set_cons_zero, List.set_cons_succ])
    go_cut [43] (fun v43 wc => ∃ (kq : Nat) (x43_5 : Bool), v43 = .bool x43_5 ∧ Aside0 (laws_FnTokenRun.j0 kq t147 t148 t151 t152 x43_5 = some r) ∧ Aside0 (kq ≤ k) ∧ Aside0 (Kd.R Kd.bool 4 wc w.heap.size (fun _ => True) (.slice Ao8 t148.length co8) t148) ∧ Aside0 (Below w.heap.size w wc))
    case first =>
      have H := HC6.out
      clear HC6
      by_cases c11 : t151 = t153
      · rw [if_pos c11] at H
        have c11b0 : (t151 == t153) = true := beq_iff_eq.mpr c11
        have c11b1 : (t151 != t153) = false := bne_eq_false_iff_eq.mpr c11
        clear c11
        (first | rw [c11b0] | (simp only [i64_w, i32_w]; rw [c11b0]) | skip)
        have H' := Aside0.mk H
        clear H
        go_wp2
        go_meet
        case rel => exact ⟨_, ((t152 != t154)), (by first | rfl | (simp; done) | (simp [*]; done)), H', ⟨by first | omega | exact Nat.le_refl _⟩, ⟨by (with_reducible repeat (first | apply Kd.R_alloc | apply Kd.R_drewN | apply Kd.R_drew)); exact HO150.out⟩, ⟨by repeat (first | (with_reducible first | exact HB.out | apply below_alloc | apply pw_below_drewN | apply below_drew1) | exact HB.out)⟩⟩
      · rw [if_neg c11] at H
        have c11b0 : (t151 == t153) = false := beq_eq_false_iff_ne.mpr c11
        have c11b1 : (t151 != t153) = true := bne_iff_ne.mpr c11
        (first | rw [c11b0] | (simp only [i64_w, i32_w]; rw [c11b0]) | skip)
        have H' := Aside0.mk H
        clear H
        go_wp2
        go_meet
        case rel => exact ⟨_, (true), (by first | rfl | (simp; done) | (simp [*]; done)), H', ⟨by first | omega | exact Nat.le_refl _⟩, ⟨by (with_reducible repeat (first | apply Kd.R_alloc | apply Kd.R_drewN | apply Kd.R_drew)); exact HO150.out⟩, ⟨by repeat (first | (with_reducible first | exact HB.out | apply below_alloc | apply pw_below_drewN | apply below_drew1) | exact HB.out)⟩⟩
    case rest =>
      clear HC6
      try clear c1
      try clear c2
      try clear c2b0
      try clear c2b1
      try clear p2
      try clear c4
      try clear p6
      try clear c11
      try clear c11b0
      try clear c11b1
      obtain ⟨kq, x43_5, rfl, HA, HJ5, HO_4, HB⟩ := hcut
      cases kq with
      | zero => exact absurd HA.out (by simp [laws_FnTokenRun.j0])
      | succ kj5 =>
        have H := HA.out
        clear HA
        simp only [laws_FnTokenRun.j0] at H
        by_cases c12 : x43_5 = true
        · subst c12
          have H1 : (some false) = some r := by rw [if_pos rfl] at H; exact H
          clear H
          have H := H1
          clear H1
          obtain rfl := Option.some.inj H
          exact absurd hrt.out (by simp)
        · replace c12 := Bool.eq_false_iff.mpr c12
          subst c12
          have H1 : (if t151 < 0 then (if t151 = (-1) then (if t152 = (-1) then ((laws_alive.f kj5).bind fun t155 => (some t155)) else (some false)) else (some false)) else (laws_FnTokenRun.l0 kj5 t147 t148 t151 t152 0 0)) = some r := by rw [if_neg (show ¬ (false = true) by decide)] at H; exact H
          clear H
          have H := H1
          clear H1
          by_cases c13 : t151 < 0
          · rw [if_pos c13] at H
            have c13b0 : decide (t151 < 0) = true := decide_eq_true c13
            clear c13
            by_cases c14 : t151 = (-1)
            · rw [if_pos c14] at H
              have c14b0 : (t151 == (-1)) = true := beq_iff_eq.mpr c14
              have c14b1 : (t151 != (-1)) = false := bne_eq_false_iff_eq.mpr c14
              clear c14
              by_cases c15 : t152 = (-1)
              · rw [if_pos c15] at H
                have c15b0 : (t152 == (-1)) = true := beq_iff_eq.mpr c15
                have c15b1 : (t152 != (-1)) = false := bne_eq_false_iff_eq.mpr c15
                clear c15
                replace H := Option.bind_eq_some_iff.mp H
                obtain ⟨t155, A160, H⟩ := H
                replace H : (some t155) = some r := H
                have A16 := Aside0.mk A160
                clear A160
                obtain rfl := Option.some.inj H
                go_wp2_with (first | (go_at_call 32; (with_reducible refine (laws_alive.calls kj5  t155 _ A16.out).mono ?_); rintro e w17 ⟨rfl, hb⟩; have n0_ := Aside0.mk (Kd.R_below (by (with_reducible repeat (first | apply Kd.R_alloc | apply Kd.R_drewN | apply Kd.R_drew)); exact HO_4.out) hb); have n1_ := Aside0.mk (below_step (by repeat (first | (with_reducible first | exact HB.out | apply below_alloc | apply pw_below_drewN | apply below_drew1) | exact HB.out)) hb); clear HO_4; clear HB; have HO_4 := n0_; have HB := n1_; clear n0_ n1_; (try clear hb); (try clear hb2); (try clear hk); (try clear hi)))
                go_ret
                exact ⟨by first | rfl | (simp [errW_none, errW_some] <;> rfl) | (simp [*, errW_none, errW_some] <;> rfl) | (simp only [IntKind.wrap_u8, show ∀ n_ : Int, wrap64 (n_ % 256) = n_ % 256 from fun n_ => by unfold wrap64; omega]; rfl), by repeat (first | (with_reducible first | exact HB.out | apply below_alloc | apply pw_below_drewN | apply below_drew1) | exact HB.out)⟩
              · rw [if_neg c15] at H
                have c15b0 : (t152 == (-1)) = false := beq_eq_false_iff_ne.mpr c15
                have c15b1 : (t152 != (-1)) = true := bne_iff_ne.mpr c15
                obtain rfl := Option.some.inj H
                exact absurd hrt.out (by simp)
            · rw [if_neg c14] at H
              have c14b0 : (t151 == (-1)) = false := beq_eq_false_iff_ne.mpr c14
              have c14b1 : (t151 != (-1)) = true := bne_iff_ne.mpr c14
              obtain rfl := Option.some.inj H
              exact absurd hrt.out (by simp)
          · rw [if_neg c13] at H
            have c13b0 : decide (t151 < 0) = false := decide_eq_false c13
            clear c13
            have H' := Aside0.mk H
            clear H
            go_wp2
            go_loopg [9, 10] kj5 (fun kq v9 v10 w' => ∃ (x9_2 : Int) (x10_2 : Int), v9 = .int .i64 x9_2 ∧ v10 = .int .i64 x10_2 ∧ Aside0 (laws_FnTokenRun.l0 kq t147 t148 t151 t152 x9_2 x10_2 = some r) ∧ Aside0 (kq ≤ kj5) ∧ Aside0 (Kd.R Kd.bool 4 w' w.heap.size (fun _ => True) (.slice Ao8 t148.length co8) t148) ∧ Aside0 (Below w.heap.size w w'))
            case atStart => exact ⟨(0), (0), (by first | rfl | (simp; done) | (simp [*]; done)), (by first | rfl | (simp; done) | (simp [*]; done)), H', ⟨Nat.le_refl _⟩, ⟨by (with_reducible repeat (first | apply Kd.R_alloc | apply Kd.R_drewN | apply Kd.R_drew)); exact HO_4.out⟩, ⟨by repeat (first | (with_reducible first | exact HB.out | apply below_alloc | apply pw_below_drewN | apply below_drew1) | exact HB.out)⟩⟩
            case round =>
              clear H'
              try clear c1
              try clear c2
              try clear c2b0
              try clear c2b1
              try clear p2
              try clear c4
              try clear p6
              try clear c11
              try clear c11b0
              try clear c11b1
              try clear c12
              try clear c13
              try clear c13b0
              try clear c14
              try clear c14b0
              try clear c14b1
              try clear c15
              try clear c15b0
              try clear c15b1
              try clear p2
              try clear p6
              obtain ⟨x9_2, x10_2, rfl, rfl, HA, HK2, HO_4, HB⟩ := hrel
              cases gk with
              | zero => exact absurd HA.out (by simp [laws_FnTokenRun.l0])
              | succ k2 =>
                have H := HA.out
                clear HA
                simp only [laws_FnTokenRun.l0] at H
                by_cases c18 : x10_2 < (t148.length : Int)
                · rw [if_pos c18] at H
                  have c18b0 : decide (x10_2 < (t148.length : Int)) = true := decide_eq_true c18
                  clear c18
                  by_cases c19 : 0 ≤ x10_2
                  · rw [if_pos c19] at H
                    have c19b0 : decide (0 ≤ x10_2) = true := decide_eq_true c19
                    clear c19
                    obtain ⟨bq20, hbq20⟩ : ∃ b_ : Bool, b_ = (rdOf false t148 x10_2) := ⟨_, rfl⟩
                    replace H : (if bq20 = true then (laws_FnTokenRun.l0 k2 t147 t148 t151 t152 (wrap64 (x9_2 + 1)) (wrap64 (x10_2 + 1))) else (laws_FnTokenRun.l0 k2 t147 t148 t151 t152 x9_2 (wrap64 (x10_2 + 1)))) = some r := by rw [← hbq20] at H; exact H
                    have Nbq20 := Aside0.mk hbq20
                    clear hbq20
                    by_cases c21 : bq20 = true
                    · subst c21
                      have H1 : (laws_FnTokenRun.l0 k2 t147 t148 t151 t152 (wrap64 (x9_2 + 1)) (wrap64 (x10_2 + 1))) = some r := by rw [if_pos rfl] at H; exact H
                      clear H
                      have H := H1
                      clear H1
                      have H' := Aside0.mk H
                      clear H
                      have p156 : 0 ≤ (x10_2 : Int) := of_decide_eq_true (by first | (with_reducible assumption) | assumption)
                      have q156 : x10_2 < (t148.length : Int) := of_decide_eq_true (by first | (with_reducible assumption) | assumption)
                      obtain ⟨ad156, e156, hx156_0⟩ := Kd.at_bool (Kd.R_reads' HO_4.out).2.2 x10_2 p156 q156
                      (try rw [← Nbq20.out] at hx156_0)
                      cases e156
                      replace p156 := eq_true p156
                      replace q156 := eq_true q156
                      go_wp2
                      go_roundg k2
                      case measure => have := HJ5.out; have := HK2.out; omega
                      case rel => exact ⟨(wrap64 (x9_2 + 1)), (wrap64 (x10_2 + 1)), (by first | rfl | (simp; done) | (simp [*]; done)), (by first | rfl | (simp; done) | (simp [*]; done)), H', ⟨by have := HJ5.out; have := HK2.out; omega⟩, ⟨by (with_reducible repeat (first | apply Kd.R_alloc | apply Kd.R_drewN | apply Kd.R_drew)); exact HO_4.out⟩, ⟨by repeat (first | (with_reducible first | exact HB.out | apply below_alloc | apply pw_below_drewN | apply below_drew1) | exact HB.out)⟩⟩
                    · replace c21 := Bool.eq_false_iff.mpr c21
                      subst c21
                      have H1 : (laws_FnTokenRun.l0 k2 t147 t148 t151 t152 x9_2 (wrap64 (x10_2 + 1))) = some r := by rw [if_neg (show ¬ (false = true) by decide)] at H; exact H
                      clear H
                      have H := H1
                      clear H1
                      have H' := Aside0.mk H
                      clear H
                      have p156 : 0 ≤ (x10_2 : Int) := of_decide_eq_true (by first | (with_reducible assumption) | assumption)
                      have q156 : x10_2 < (t148.length : Int) := of_decide_eq_true (by first | (with_reducible assumption) | assumption)
                      obtain ⟨ad156, e156, hx156_0⟩ := Kd.at_bool (Kd.R_reads' HO_4.out).2.2 x10_2 p156 q156
                      (try rw [← Nbq20.out] at hx156_0)
                      cases e156
                      replace p156 := eq_true p156
                      replace q156 := eq_true q156
                      go_wp2
                      go_roundg k2
                      case measure => have := HJ5.out; have := HK2.out; omega
                      case rel => exact ⟨(x9_2), (wrap64 (x10_2 + 1)), (by first | rfl | (simp; done) | (simp [*]; done)), (by first | rfl | (simp; done) | (simp [*]; done)), H', ⟨by have := HJ5.out; have := HK2.out; omega⟩, ⟨by (with_reducible repeat (first | apply Kd.R_alloc | apply Kd.R_drewN | apply Kd.R_drew)); exact HO_4.out⟩, ⟨by repeat (first | (with_reducible first | exact HB.out | apply below_alloc | apply pw_below_drewN | apply below_drew1) | exact HB.out)⟩⟩
                  · rw [if_neg c19] at H
                    exact absurd H (by simp)
                · rw [if_neg c18] at H
                  have c18b0 : decide (x10_2 < (t148.length : Int)) = false := decide_eq_false c18
                  clear c18
                  obtain ⟨ji22, hji22⟩ : ∃ j_ : Int, (wrap64 ((t148.length : Int) / 2)) = j_ := ⟨_, rfl⟩
                  replace H : (if 0 ≤ (ji22) then (if (ji22) ≤ (t148.length : Int) then ((impl_TokenRun.f k2 t147 (t148.take ((ji22) : Int).toNat)).bind fun bt161 => ((impl_TokenRun.f k2 bt161.1 (t148.drop ((ji22) : Int).toNat)).bind fun bt167 => (if (wrap64 (3 * t152)) ≤ (wrap64 (t147 + x9_2)) then (if bt167.1 = t151 then (some ((wrap64 (bt161.2 + bt167.2)) == t152)) else (some false)) else (some false)))) else (none)) else (none)) = some r := by first | (rw [hji22] at H; exact H) | (simp only [hji22] at H ⊢; exact H)
                  have hji22w : (IntKind.i64.wrap ((t148.length : Int) / 2)) = ji22 := (i64_w _).trans hji22
                  by_cases c23 : 0 ≤ (ji22)
                  · rw [if_pos c23] at H
                    have c23b0 := eq_true c23
                    have c23b1 : decide (0 ≤ (ji22)) = true := decide_eq_true c23
                    clear c23
                    by_cases c24 : (ji22) ≤ (t148.length : Int)
                    · rw [if_pos c24] at H
                      have c24b0 := eq_true c24
                      have c24b1 : decide ((ji22) ≤ (t148.length : Int)) = true := decide_eq_true c24
                      clear c24
                      obtain ⟨y157, hy157⟩ : ∃ y_ : List Bool, y_ = (t148.take ((ji22) : Int).toNat) := ⟨_, rfl⟩
                      replace H : ((impl_TokenRun.f k2 t147 y157).bind fun bt161 => ((impl_TokenRun.f k2 bt161.1 (t148.drop ((ji22) : Int).toNat)).bind fun bt167 => (if (wrap64 (3 * t152)) ≤ (wrap64 (t147 + x9_2)) then (if bt167.1 = t151 then (some ((wrap64 (bt161.2 + bt167.2)) == t152)) else (some false)) else (some false)))) = some r := by first | (rw [hy157]; with_reducible exact H) | (have H2_ := (Option.bind_some _ _).symm.trans H; rw [hy157]; with_reducible exact H2_) | (have H2_ := (Option.bind_some _ _).symm.trans H; with_reducible exact H2_) | with_reducible exact H | (rw [hy157]; exact H) | exact H
                      have Ny157 := Aside0.mk hy157
                      clear hy157
                      replace H := Option.bind_eq_some_iff.mp H
                      obtain ⟨⟨t161, t162⟩, A250, H⟩ := H
                      replace H : ((impl_TokenRun.f k2 t161 (t148.drop ((ji22) : Int).toNat)).bind fun bt167 => (if (wrap64 (3 * t152)) ≤ (wrap64 (t147 + x9_2)) then (if bt167.1 = t151 then (some ((wrap64 (t162 + bt167.2)) == t152)) else (some false)) else (some false))) = some r := H
                      have A25 := Aside0.mk A250
                      clear A250
                      have c26b0 := eq_true (of_decide_eq_true (by first | (with_reducible assumption) | assumption) : 0 ≤ (ji22))
                      have c27b0 := eq_true (of_decide_eq_true (by first | (with_reducible assumption) | assumption) : (ji22) ≤ (t148.length : Int))
                      obtain ⟨y163, hy163⟩ : ∃ y_ : List Bool, y_ = (t148.drop ((ji22) : Int).toNat) := ⟨_, rfl⟩
                      replace H : ((impl_TokenRun.f k2 t161 y163).bind fun bt167 => (if (wrap64 (3 * t152)) ≤ (wrap64 (t147 + x9_2)) then (if bt167.1 = t151 then (some ((wrap64 (t162 + bt167.2)) == t152)) else (some false)) else (some false))) = some r := by first | (rw [hy163]; with_reducible exact H) | (have H2_ := (Option.bind_some _ _).symm.trans H; rw [hy163]; with_reducible exact H2_) | (have H2_ := (Option.bind_some _ _).symm.trans H; with_reducible exact H2_) | with_reducible exact H | (rw [hy163]; exact H) | exact H
                      have Ny163 := Aside0.mk hy163
                      clear hy163
                      replace H := Option.bind_eq_some_iff.mp H
                      obtain ⟨⟨t167, t168⟩, A280, H⟩ := H
                      replace H : (if (wrap64 (3 * t152)) ≤ (wrap64 (t147 + x9_2)) then (if t167 = t151 then (some ((wrap64 (t162 + t168)) == t152)) else (some false)) else (some false)) = some r := H
                      have A28 := Aside0.mk A280
                      clear A280
                      by_cases c29 : (wrap64 (3 * t152)) ≤ (wrap64 (t147 + x9_2))
                      · rw [if_pos c29] at H
                        have c29b0 : decide ((wrap64 (3 * t152)) ≤ (wrap64 (t147 + x9_2))) = true := decide_eq_true c29
                        clear c29
                        by_cases c30 : t167 = t151
                        · rw [if_pos c30] at H
                          have c30b0 : (t167 == t151) = true := beq_iff_eq.mpr c30
                          have c30b1 : (t167 != t151) = false := bne_eq_false_iff_eq.mpr c30
                          clear c30
                          obtain rfl := Option.some.inj H
                          have q31 : ((ji22) : Int) ≤ ((t148.length : Int) : Int) := of_decide_eq_true (by first | (with_reducible assumption) | assumption)
                          obtain ⟨i031, hi031, _, hsz31, _⟩ := info_parts info4
                          have hroom31 : t148.length ≤ co8 := (Kd.R_reads' HO_4.out).2.1
                          have hC31 : Kd.C Kd.bool _ Ao8 t148.length t148 := (Kd.R_reads' HO_4.out).2.2
                          have hcut31 := cut_to (P := Try.prog) 31 4 .i64 Try.underlying31 hi031 Ao8 t148.length co8 (ji22) (of_decide_eq_true (by first | (with_reducible assumption) | assumption)) q31 hroom31
                          have hr31 := Kd.C_take (m := ((ji22) : Int).toNat) hC31 (by omega)
                          have hy31 : y157.length = ((ji22) : Int).toNat := (by rw [Ny157.out, List.length_take]; omega)
                          rw [← Ny157.out] at hr31
                          rw [← hy31] at hcut31
                          have HR160 := Aside0.mk hr31
                          have HC160 := Aside0.mk (show y157.length ≤ co8 from by omega)
                          clear hr31 hC31 hroom31 hi031 hsz31
                          have KY31 := Aside0.mk hy31
                          clear hy31
                          have KL31 := Aside0.mk (show ((ji22) : Int).toNat ≤ t148.length from by omega)
                          replace q31 := eq_true q31
                          go_wp2_with (first | ((with_reducible refine gate_callee (f := 25) rfl ?_); refine goesL_ (some 75) rfl rfl Try.func25 (by kernel_rfl) rfl #[.int .i64 t147, .slice Ao8 y157.length co8] rfl (by (try simp only [List.map_toArray, List.map_cons, List.map_nil]); first | done | rfl | (simp only [List.length_drop, List.length_take]; rfl)) ?_; (with_reducible refine (impl_TokenRun.calls k2 t147 _ _ y157 t161 t162 _ ?side1 ?side2 A25.out).mono ?_); (case side1 => repeat (first | exact (by repeat (first | (with_reducible exact HR160.out) | (with_reducible refine Kd.C_alloc ?_ _) | (with_reducible refine Kd.C_drewN ?_ _) | (with_reducible refine Kd.C_drew ?_) | exact HR160.out)) | (with_reducible refine Kd.C_alloc ?_ _) | (with_reducible refine Kd.C_drewN ?_ _) | (with_reducible refine Kd.C_drew ?_))); (case side2 => exact HC160.out); rintro e w32 ⟨rfl, hb⟩; refine ⟨_, rfl, ?_⟩; have n0_ := Aside0.mk (Kd.R_below (by (with_reducible repeat (first | apply Kd.R_alloc | apply Kd.R_drewN | apply Kd.R_drew)); exact HO_4.out) hb); have n1_ := Aside0.mk (Kd.C_below (by repeat (first | (with_reducible exact HR160.out) | (with_reducible refine Kd.C_alloc ?_ _) | (with_reducible refine Kd.C_drewN ?_ _) | (with_reducible refine Kd.C_drew ?_) | exact HR160.out)) hb); have n2_ := Aside0.mk (below_step (by repeat (first | (with_reducible first | exact HB.out | apply below_alloc | apply pw_below_drewN | apply below_drew1) | exact HB.out)) hb); clear HO_4; clear HR160; clear HB; have HO_4 := n0_; have HR160 := n1_; have HB := n2_; clear n0_ n1_ n2_; (try clear hb); (try clear hb2); (try clear hk); (try clear hi); have q33 : ((ji22) : Int) ≤ ((t148.length : Int) : Int) := of_decide_eq_true (by first | (with_reducible assumption) | assumption); obtain ⟨i033, hi033, _, hsz33, _⟩ := info_parts info4; have hroom33 : t148.length ≤ co8 := (Kd.R_reads' HO_4.out).2.1; have hC33 : Kd.C Kd.bool _ Ao8 t148.length t148 := (Kd.R_reads' HO_4.out).2.2; have q033 : (0 : Int) ≤ ((ji22) : Int) := of_decide_eq_true (by first | (with_reducible assumption) | assumption); have hcut33 := cut_from (P := Try.prog) 31 4 .i64 Try.underlying31 hi033 1 hsz33 Ao8 t148.length co8 (ji22) q033 q33; have hr33 := Kd.C_drop (m := ((ji22) : Int).toNat) (c := co8) hC33 (by omega) hroom33; obtain ⟨A33, hA33⟩ : ∃ A1, A1 = (if co8 = ((ji22) : Int).toNat then Ao8 else (Ao8 : Option Addr).map (·.add (((ji22) : Int).toNat * 1))) := ⟨_, rfl⟩; obtain ⟨c33, hc33⟩ : ∃ c1, c1 = co8 - ((ji22) : Int).toNat := ⟨_, rfl⟩; have hy33 : y163.length = t148.length - ((ji22) : Int).toNat := (by rw [Ny163.out, List.length_drop] <;> omega); rw [show (t148).drop ((ji22) : Int).toNat = y163 from Ny163.out.symm] at hr33; replace hr33 : Kd.C Kd.bool _ A33 y163.length y163 := (by rw [hA33]; exact hr33); rw [← hy33, ← hA33, ← hc33] at hcut33; have HR166 := Aside0.mk hr33; have HC166 := Aside0.mk (show y163.length ≤ c33 from by rw [hy33, hc33]; exact Nat.sub_le_sub_right hroom33 _); clear hr33 hC33 hroom33 hi033 hsz33 hc33; have KY33 := Aside0.mk hy33; have KA33 := Aside0.mk hA33; clear hy33 hA33; have KL33 := Aside0.mk (show ((ji22) : Int).toNat ≤ t148.length from by omega); replace q33 := eq_true q33) | ((with_reducible refine gate_callee (f := 25) rfl ?_); refine goesL_ (some 83) rfl rfl Try.func25 (by kernel_rfl) rfl #[.int .i64 t161, .slice A33 y163.length c33] rfl (by (try simp only [List.map_toArray, List.map_cons, List.map_nil]); first | done | rfl | (simp only [List.length_drop, List.length_take]; rfl)) ?_; (with_reducible refine (impl_TokenRun.calls k2 t161 _ _ y163 t167 t168 _ ?side1 ?side2 A28.out).mono ?_); (case side1 => repeat (first | exact (by repeat (first | (with_reducible exact HR166.out) | (with_reducible refine Kd.C_alloc ?_ _) | (with_reducible refine Kd.C_drewN ?_ _) | (with_reducible refine Kd.C_drew ?_) | exact HR166.out)) | (with_reducible refine Kd.C_alloc ?_ _) | (with_reducible refine Kd.C_drewN ?_ _) | (with_reducible refine Kd.C_drew ?_))); (case side2 => exact HC166.out); rintro e w34 ⟨rfl, hb⟩; refine ⟨_, rfl, ?_⟩; have n0_ := Aside0.mk (Kd.R_below (by (with_reducible repeat (first | apply Kd.R_alloc | apply Kd.R_drewN | apply Kd.R_drew)); exact HO_4.out) hb); have n1_ := Aside0.mk (Kd.C_below (by repeat (first | (with_reducible exact HR160.out) | (with_reducible refine Kd.C_alloc ?_ _) | (with_reducible refine Kd.C_drewN ?_ _) | (with_reducible refine Kd.C_drew ?_) | exact HR160.out)) hb); have n2_ := Aside0.mk (Kd.C_below (by repeat (first | (with_reducible exact HR166.out) | (with_reducible refine Kd.C_alloc ?_ _) | (with_reducible refine Kd.C_drewN ?_ _) | (with_reducible refine Kd.C_drew ?_) | exact HR166.out)) hb); have n3_ := Aside0.mk (below_step (by repeat (first | (with_reducible first | exact HB.out | apply below_alloc | apply pw_below_drewN | apply below_drew1) | exact HB.out)) hb); clear HO_4; clear HR160; clear HR166; clear HB; have HO_4 := n0_; have HR160 := n1_; have HR166 := n2_; have HB := n3_; clear n0_ n1_ n2_ n3_; (try clear hb); (try clear hb2); (try clear hk); (try clear hi)))
                          go_ret
                          exact ⟨by first | rfl | (simp [errW_none, errW_some] <;> rfl) | (simp only [← hji22]; first | rfl | (simp [errW_none, errW_some] <;> rfl)) | (simp [*, errW_none, errW_some] <;> rfl) | (simp only [IntKind.wrap_u8, show ∀ n_ : Int, wrap64 (n_ % 256) = n_ % 256 from fun n_ => by unfold wrap64; omega]; rfl), by repeat (first | (with_reducible first | exact HB.out | apply below_alloc | apply pw_below_drewN | apply below_drew1) | exact HB.out)⟩
                        · rw [if_neg c30] at H
                          have c30b0 : (t167 == t151) = false := beq_eq_false_iff_ne.mpr c30
                          have c30b1 : (t167 != t151) = true := bne_iff_ne.mpr c30
                          obtain rfl := Option.some.inj H
                          exact absurd hrt.out (by simp)
                      · rw [if_neg c29] at H
                        have c29b0 : decide ((wrap64 (3 * t152)) ≤ (wrap64 (t147 + x9_2))) = false := decide_eq_false c29
                        clear c29
                        obtain rfl := Option.some.inj H
                        exact absurd hrt.out (by simp)
                    · rw [if_neg c24] at H
                      exact absurd H (by simp)
                  · rw [if_neg c23] at H
                    exact absurd H (by simp)

/-- THE ONE PURE STATEMENT of laws_FnTokenRun: yours. -/
def laws_FnTokenRun.Pure : Prop := ∀ (l0 : List Int), l0.length ≤ maxLen → l0.length * 1 ≤ 140737488351232 → (∀ x ∈ l0, (Lit.int .u8 x).wf = true) → ∃ k, laws_FnTokenRun.f k l0 = some true
theorem laws_FnTokenRun.walk (P : laws_FnTokenRun.Pure) (a0 : Option Addr) (len0 cap0 : Nat) (z0 : List Int) (w : World) (w0 : (a0 = none ∧ len0 = 0 ∧ cap0 = 0 ∧ z0 = []) ∨ ∃ x, a0 = some x ∧ len0 ≤ cap0 ∧ cap0 ≤ maxLen ∧ z0.length = cap0 ∧ (∀ i, i < z0.length → w.cell? (x.add i) = some (.int .u8 (z0.getD i 0))) ∧ ∀ n ∈ z0, (Lit.int .u8 n).wf = true) (y0 : len0 * 1 ≤ 140737488351232) :
    Calls Try.prog 12 #[.slice a0 len0 cap0] w fun e w' => e = .returned (.bool true) ∧ Below w.heap.size w w' := by
  obtain ⟨l0, rfl, hr0, hm0, hw0, hc0⟩ := ReadsInt.ofRowC w0
  obtain ⟨k, h⟩ := P l0 hm0 y0 hw0
  refine (laws_FnTokenRun.calls k _ _ l0 true w (Kd.C_of_reads (d := (0 : Int)) (h1 := fun _ => rfl) hr0) hc0 h ⟨rfl⟩).mono ?_
  rintro e w' ⟨rfl, hd⟩
  exact ⟨rfl, hd⟩

end Go.Proofs.Ytpeifepnaecjiaa.PFnTokenRun
