-- Written by a program of this session, in the manner of the kit's print (wip/pp.py): functions and their contracts.
import Derived.Test.YtkejaolfbejokaaPFnExactMasterValidx0
import Derived.Test.YtkejaolfbejokaaPFnExactMasterValidx1
import Derived.Test.YtkejaolfbejokaaPFnExactMasterValidx2
import Derived.Test.YtkejaolfbejokaaPFnExactMasterValidx3
namespace Go.Proofs.Ytkejaolfbejokaa.PFnExactMasterValid
open Go.RowKit Go.Proofs.YtkejaolfbejokaaW.PrintWords Go.Proofs.YtkejaolfbejokaaW.PrintLast Go.Proofs.YtkejaolfbejokaaW.PrintMore
attribute [local go_sem] binOp_leq_str binOp_gtr_str binOp_geq_str max2_int min2_int max_two min_two max_three min_three max_four min_four   -- for this text's walks alone
set_option linter.unusedVariables false
set_option linter.unusedSimpArgs false

attribute [local go_sem high] eqA64
/-! ### spec_RoutesValid: function 92 -/
mutual
def spec_RoutesValid.l0 : Nat → List (S129) → List (S127) → Int → Option (Bool)
  | 0, _, _, _ => none
  | k + 1, x0, x3, x4 => if x4 < (x0.length : Int) then (if x4 ≥ 6 then (spec_RoutesValid.j1 k x0 x3 x4 true) else (if 0 ≤ x4 then ((spec_l1In.f ((rd_T129 x0 x4).f0) 0 7).bind fun t136 => (spec_RoutesValid.j1 k x0 x3 x4 (!t136))) else (none))) else ((spec_PartitionValid.f k x3).bind fun t134 => (some t134))
def spec_RoutesValid.j1 : Nat → List (S129) → List (S127) → Int → Bool → Option (Bool)
  | 0, _, _, _, _ => none
  | k + 1, x0, x3, x4, x23 => if x23 = true then (some false) else (spec_RoutesValid.l1 k x0 x3 x4 0)
def spec_RoutesValid.l1 : Nat → List (S129) → List (S127) → Int → Int → Option (Bool)
  | 0, _, _, _, _ => none
  | k + 1, x0, x3, x4, x5 => if x5 < x4 then (if 0 ≤ x5 then (if x5 < (x0.length : Int) then (if 0 ≤ x4 then (if x4 < (x0.length : Int) then (if ((rd_T129 x0 x5).f0) = ((rd_T129 x0 x4).f0) then (some false) else (spec_RoutesValid.l1 k x0 x3 x4 (wrap64 (x5 + 1)))) else (none)) else (none)) else (none)) else (none)) else (if 0 ≤ x4 then (if x4 < (x0.length : Int) then (if x3.length < 4398046511104 then (spec_RoutesValid.l0 k x0 (x3 ++ [(⟨(rd_T129 x0 x4).f1.f0, (rd_T129 x0 x4).f1.f1⟩ : S127)]) (wrap64 (x4 + 1))) else (none)) else (none)) else (none))
end
def spec_RoutesValid.f (k : Nat) (l0 : List (S129)) : Option (Bool) := spec_RoutesValid.l0 k l0 (([] : List (S127))) 0
theorem spec_RoutesValid.mono_l : ∀ k, (∀ y0 y1 y2, LeO (spec_RoutesValid.l0 k y0 y1 y2) (spec_RoutesValid.l0 (k + 1) y0 y1 y2)) ∧ (∀ y0 y1 y2 y3, LeO (spec_RoutesValid.j1 k y0 y1 y2 y3) (spec_RoutesValid.j1 (k + 1) y0 y1 y2 y3)) ∧ (∀ y0 y1 y2 y3, LeO (spec_RoutesValid.l1 k y0 y1 y2 y3) (spec_RoutesValid.l1 (k + 1) y0 y1 y2 y3))
  | 0 => ⟨fun _ _ _ r h => by simp [spec_RoutesValid.l0] at h, fun _ _ _ _ r h => by simp [spec_RoutesValid.j1] at h, fun _ _ _ _ r h => by simp [spec_RoutesValid.l1] at h⟩
  | k + 1 => by
    obtain ⟨ih0, ih1, ih2⟩ := spec_RoutesValid.mono_l k
    refine ⟨?_, ?_, ?_⟩
    · intro y0 y1 y2
      unfold spec_RoutesValid.l0
      repeat' first
      | (with_reducible exact ih0 _ _ _)
      | (with_reducible exact ih1 _ _ _ _)
      | (with_reducible exact ih2 _ _ _ _)
      | (with_reducible exact spec_PartitionValid.mono _ _)
      | (with_reducible exact LeO.refl _)
      | (with_reducible exact LeO.none _)
      | (with_reducible refine LeO.ite ?_ ?_)
      | (with_reducible refine LeO.bind ?_ (fun _ => ?_))
      | exact ih0 _ _ _
      | exact ih1 _ _ _ _
      | exact ih2 _ _ _ _
      | exact spec_PartitionValid.mono _ _
      | exact LeO.none _
      | refine LeO.ite ?_ ?_
      | refine LeO.bind ?_ (fun _ => ?_)
    · intro y0 y1 y2 y3
      unfold spec_RoutesValid.j1
      repeat' first
      | (with_reducible exact ih0 _ _ _)
      | (with_reducible exact ih1 _ _ _ _)
      | (with_reducible exact ih2 _ _ _ _)
      | (with_reducible exact spec_PartitionValid.mono _ _)
      | (with_reducible exact LeO.refl _)
      | (with_reducible exact LeO.none _)
      | (with_reducible refine LeO.ite ?_ ?_)
      | (with_reducible refine LeO.bind ?_ (fun _ => ?_))
      | exact ih0 _ _ _
      | exact ih1 _ _ _ _
      | exact ih2 _ _ _ _
      | exact spec_PartitionValid.mono _ _
      | exact LeO.none _
      | refine LeO.ite ?_ ?_
      | refine LeO.bind ?_ (fun _ => ?_)
    · intro y0 y1 y2 y3
      unfold spec_RoutesValid.l1
      repeat' first
      | (with_reducible exact ih0 _ _ _)
      | (with_reducible exact ih1 _ _ _ _)
      | (with_reducible exact ih2 _ _ _ _)
      | (with_reducible exact spec_PartitionValid.mono _ _)
      | (with_reducible exact LeO.refl _)
      | (with_reducible exact LeO.none _)
      | (with_reducible refine LeO.ite ?_ ?_)
      | (with_reducible refine LeO.bind ?_ (fun _ => ?_))
      | exact ih0 _ _ _
      | exact ih1 _ _ _ _
      | exact ih2 _ _ _ _
      | exact spec_PartitionValid.mono _ _
      | exact LeO.none _
      | refine LeO.ite ?_ ?_
      | refine LeO.bind ?_ (fun _ => ?_)
theorem spec_RoutesValid.mono : ∀ a0 k, LeO (spec_RoutesValid.f k a0) (spec_RoutesValid.f (k + 1) a0) := by
  intro a0 k
  obtain ⟨ih0, ih1, ih2⟩ := spec_RoutesValid.mono_l k
  unfold spec_RoutesValid.f
  repeat' first
      | (with_reducible exact ih0 _ _ _)
      | (with_reducible exact ih1 _ _ _ _)
      | (with_reducible exact ih2 _ _ _ _)
      | (with_reducible exact spec_PartitionValid.mono _ _)
      | (with_reducible exact LeO.refl _)
      | (with_reducible exact LeO.none _)
      | (with_reducible refine LeO.ite ?_ ?_)
      | (with_reducible refine LeO.bind ?_ (fun _ => ?_))
      | exact ih0 _ _ _
      | exact ih1 _ _ _ _
      | exact ih2 _ _ _ _
      | exact spec_PartitionValid.mono _ _
      | exact LeO.none _
      | refine LeO.ite ?_ ?_
      | refine LeO.bind ?_ (fun _ => ?_)
set_option maxHeartbeats 8000000 in
set_option maxRecDepth 100000 in
theorem spec_RoutesValid.calls (k : Nat) (A0 : Option Addr) (c0 : Nat) (l0 : List (S129)) (r : Bool) (w : World) (hr0 : Kd.C k129 w A0 l0.length l0) (hc0 : l0.length ≤ c0) (h : spec_RoutesValid.f k l0 = some r) :
    Calls Try.prog 92 #[.slice A0 l0.length c0] w fun e w' => e = .returned (.bool r) ∧ Below w.heap.size w w' := by
  have hu127 := Try.underlying127
  have HR0 := Aside0.mk hr0
  have HC0 := Aside0.mk hc0
  clear hr0 hc0
  have HB := Aside0.mk (Below.refl w.heap.size w)
  have H : (spec_RoutesValid.l0 k l0 (([] : List (S127))) 0) = some r := h
  clear h
  obtain ⟨y131, hy131⟩ : ∃ y_ : List (S127), y_ = (([] : List (S127))) := ⟨_, rfl⟩
  replace H : (spec_RoutesValid.l0 k l0 y131 0) = some r := by first | (rw [hy131]; with_reducible exact H) | (have H2_ := (Option.bind_some _ _).symm.trans H; rw [hy131]; with_reducible exact H2_) | (have H2_ := (Option.bind_some _ _).symm.trans H; with_reducible exact H2_) | with_reducible exact H | (rw [hy131]; exact H) | exact H
  have Ny131 := Aside0.mk hy131
  clear hy131
  have H' := Aside0.mk H
  clear H
  go_enter Try.func92, Try.ntmps92
  go_wp2_with (first | ((with_reducible refine gate_dst (N := 6) rfl ?_); refine Kd.R_lit k127 _ 127 ?hg (N := 6) ?hd (xs := ([] : List (S127))) (inner := []) (ok := fun _ => True) (okp := fun _ => True) ?hr ?hp (fun _ hk => hk) trivial (Below.refl _ _) (Nat.le_refl _) (by simp) ?_; (case hd => rfl); (case hg => rfl); (case hr => first | (go_simp; done) | (go_simp; rfl)); (case hp => exact (Reps.none _ _)); intro v132 w2 ho3 hb hg_ hnew_; clear hg_ hnew_; (first | rw [← Ny131.out] at ho3 | (simp only [Int.reduceToNat] at ho3; rw [← Ny131.out] at ho3)); have n0_ := Aside0.mk (Kd.R_lower ho3 (below_size (bp HB.out))); have n1_ := an0 HB hb; clear HB; have HO133 := n0_; have HB := n1_; clear n0_ n1_; clear hb ho3))
  repeat (go_quiet (first | ((with_reducible refine gate_dst (N := 6) rfl ?_); refine Kd.R_lit k127 _ 127 ?hg (N := 6) ?hd (xs := ([] : List (S127))) (inner := []) (ok := fun _ => True) (okp := fun _ => True) ?hr ?hp (fun _ hk => hk) trivial (Below.refl _ _) (Nat.le_refl _) (by simp) ?_; (case hd => rfl); (case hg => rfl); (case hr => first | (go_simp; done) | (go_simp; rfl)); (case hp => exact (Reps.none _ _)); intro v132 w2 ho3 hb hg_ hnew_; clear hg_ hnew_; (first | rw [← Ny131.out] at ho3 | (simp only [Int.reduceToNat] at ho3; rw [← Ny131.out] at ho3)); have n0_ := Aside0.mk (Kd.R_lower ho3 (below_size (bp HB.out))); have n1_ := an0 HB hb; clear HB; have HO133 := n0_; have HB := n1_; clear n0_ n1_; clear hb ho3)); try go_wp2_with (first | ((with_reducible refine gate_dst (N := 6) rfl ?_); refine Kd.R_lit k127 _ 127 ?hg (N := 6) ?hd (xs := ([] : List (S127))) (inner := []) (ok := fun _ => True) (okp := fun _ => True) ?hr ?hp (fun _ hk => hk) trivial (Below.refl _ _) (Nat.le_refl _) (by simp) ?_; (case hd => rfl); (case hg => rfl); (case hr => first | (go_simp; done) | (go_simp; rfl)); (case hp => exact (Reps.none _ _)); intro v132 w2 ho3 hb hg_ hnew_; clear hg_ hnew_; (first | rw [← Ny131.out] at ho3 | (simp only [Int.reduceToNat] at ho3; rw [← Ny131.out] at ho3)); have n0_ := Aside0.mk (Kd.R_lower ho3 (below_size (bp HB.out))); have n1_ := an0 HB hb; clear HB; have HO133 := n0_; have HB := n1_; clear n0_ n1_; clear hb ho3)))
  go_loopg [3, 4] k (fun kq v3 v4 w' => ∃ (x3_1 : List (S127)) (x4_1 : Int), v4 = .int .i64 x4_1 ∧ Aside0 (spec_RoutesValid.l0 kq l0 x3_1 x4_1 = some r) ∧ Aside0 (kq ≤ k) ∧ Aside0 (Kd.R k127 127 w' w.heap.size (fun _ => True) v3 x3_1) ∧ Aside0 (Below w.heap.size w w'))
  case atStart => exact ⟨(y131), (0), (by first | rfl | (simp; done) | (simp [*]; done) | (simp [bne_nil_, beq_nil_]; done)), H', ⟨Nat.le_refl _⟩, ⟨by (with_reducible repeat (first | apply Kd.R_alloc | apply Kd.R_drewN | apply Kd.R_drew)); exact HO133.out⟩, ⟨bp HB.out⟩⟩
  case round =>
    clear H'
    try clear p2
    obtain ⟨x3_1, x4_1, rfl, HA, HK1, HO_3, HB⟩ := hrel
    cases gk with
    | zero => exact absurd HA.out (by simp [spec_RoutesValid.l0])
    | succ k1 =>
      have H := HA.out
      clear HA
      simp only [spec_RoutesValid.l0] at H
      by_cases c4 : x4_1 < (l0.length : Int)
      · rw [if_pos c4] at H
        have c4b0 : decide (x4_1 < (l0.length : Int)) = true := decide_eq_true c4
        clear c4
        have HC5 := Aside0.mk H
        clear H
        go_upto_region 5 with (fail)
        repeat (go_quiet (fail); go_upto_region 5 with (fail))
        go_cut [23] (fun v23 wc => ∃ (kq : Nat) (x23_4 : Bool), v23 = .bool x23_4 ∧ Aside0 (spec_RoutesValid.j1 kq l0 x3_1 x4_1 x23_4 = some r) ∧ Aside0 (kq ≤ k1) ∧ Aside0 (Kd.R k127 127 wc w.heap.size (fun _ => True) u3 x3_1) ∧ Aside0 (Below w.heap.size w wc))
        case first =>
          have H := HC5.out
          clear HC5
          by_cases c6 : x4_1 ≥ 6
          · rw [if_pos c6] at H
            have c6b0 : decide (6 ≤ x4_1) = true := decide_eq_true c6
            clear c6
            (first | rw [c6b0] | (simp only [i64_w, i32_w]; rw [c6b0]) | skip)
            have H' := Aside0.mk H
            clear H
            go_wp2
            repeat (go_quiet (fail); try go_wp2)
            go_meet
            case rel => exact ⟨_, (true), (by first | rfl | (simp; done) | (simp [*]; done) | (simp [bne_nil_, beq_nil_]; done)), H', ⟨by have := HK1.out; first | omega | exact Nat.le_refl _⟩, ⟨by (with_reducible repeat (first | apply Kd.R_alloc | apply Kd.R_drewN | apply Kd.R_drew)); exact HO_3.out⟩, ⟨bp HB.out⟩⟩
          · rw [if_neg c6] at H
            have c6b0 : decide (6 ≤ x4_1) = false := decide_eq_false c6
            clear c6
            (first | rw [c6b0] | (simp only [i64_w, i32_w]; rw [c6b0]) | skip)
            by_cases c7 : 0 ≤ x4_1
            · rw [if_pos c7] at H
              have c7b0 : decide (0 ≤ x4_1) = true := decide_eq_true c7
              clear c7
              replace H := Option.bind_eq_some_iff.mp H
              obtain ⟨t136, A80, H⟩ := H
              replace H : (spec_RoutesValid.j1 k1 l0 x3_1 x4_1 (!t136)) = some r := H
              have A8 := Aside0.mk A80
              clear A80
              have H' := Aside0.mk H
              clear H
              have p135 : 0 ≤ (x4_1 : Int) := of_decide_eq_true (by first | (with_reducible assumption) | assumption)
              have q135 : x4_1 < (l0.length : Int) := of_decide_eq_true (by first | (with_reducible assumption) | assumption)
              obtain ⟨ad135, e135, hx135_0, hx135_1, hx135_2⟩ := at_T129 HR0.out x4_1 p135 q135
              cases e135
              replace hx135_0 := (HB.out.cell (World.block_lt_of_cell? w _ hx135_0)).trans hx135_0
              replace hx135_1 := (HB.out.cell (World.block_lt_of_cell? w _ hx135_1)).trans hx135_1
              replace hx135_2 := (HB.out.cell (World.block_lt_of_cell? w _ hx135_2)).trans hx135_2
              replace p135 := eq_true p135
              replace q135 := eq_true q135
              go_wp2_with (first | (go_at_call 71; (with_reducible refine (spec_l1In.calls ((rd_T129 l0 x4_1).f0) 0 7 t136 _ A8.out).mono ?_); rintro e w' ⟨rfl, ⟨nd, rfl⟩⟩; (try first | exact ⟨rfl, _, World.drewN_drewN _ _ _⟩ | exact ⟨rfl, _, Eq.trans (World.drewN_drewN _ _ _) (congrArg (World.drewN _) (Nat.add_assoc _ _ _))⟩)))
              repeat (go_quiet (first | (go_at_call 71; (with_reducible refine (spec_l1In.calls ((rd_T129 l0 x4_1).f0) 0 7 t136 _ A8.out).mono ?_); rintro e w' ⟨rfl, ⟨nd, rfl⟩⟩; (try first | exact ⟨rfl, _, World.drewN_drewN _ _ _⟩ | exact ⟨rfl, _, Eq.trans (World.drewN_drewN _ _ _) (congrArg (World.drewN _) (Nat.add_assoc _ _ _))⟩))); try go_wp2_with (first | (go_at_call 71; (with_reducible refine (spec_l1In.calls ((rd_T129 l0 x4_1).f0) 0 7 t136 _ A8.out).mono ?_); rintro e w' ⟨rfl, ⟨nd, rfl⟩⟩; (try first | exact ⟨rfl, _, World.drewN_drewN _ _ _⟩ | exact ⟨rfl, _, Eq.trans (World.drewN_drewN _ _ _) (congrArg (World.drewN _) (Nat.add_assoc _ _ _))⟩))))
              go_meet
              case rel => exact ⟨_, (!t136), (by first | rfl | (simp; done) | (simp [*]; done) | (simp [bne_nil_, beq_nil_]; done)), H', ⟨by have := HK1.out; first | omega | exact Nat.le_refl _⟩, ⟨by (with_reducible repeat (first | apply Kd.R_alloc | apply Kd.R_drewN | apply Kd.R_drew)); exact HO_3.out⟩, ⟨bp HB.out⟩⟩
            · rw [if_neg c7] at H
              exact absurd H (by simp)
        case rest =>
          clear HC5
          try clear p1
          try clear q1
          try clear hx1
          try clear p2
          try clear c4
          try clear c4b0
          try clear c6
          try clear c6b0
          try clear c7
          try clear c7b0
          try clear hx135_0
          try clear hx135_1
          try clear hx135_2
          try clear p135
          try clear p2
          try clear q135
          obtain ⟨kq, x23_4, rfl, HA, HJ4, HO_3, HB⟩ := hcut
          cases kq with
          | zero => exact absurd HA.out (by simp [spec_RoutesValid.j1])
          | succ kj4 =>
            have H := HA.out
            clear HA
            simp only [spec_RoutesValid.j1] at H
            by_cases c9 : x23_4 = true
            · subst c9
              have H1 : (some false) = some r := by rw [if_pos rfl] at H; exact H
              clear H
              have H := H1
              clear H1
              obtain rfl := Option.some.inj H
              go_wp2
              repeat (go_quiet (fail); try go_wp2)
              go_ret
              exact ⟨fe, bp HB.out⟩
            · replace c9 := Bool.eq_false_iff.mpr c9
              subst c9
              have H1 : (spec_RoutesValid.l1 kj4 l0 x3_1 x4_1 0) = some r := by rw [if_neg (show ¬ (false = true) by decide)] at H; exact H
              clear H
              have H := H1
              clear H1
              have H' := Aside0.mk H
              clear H
              go_wp2
              repeat (go_quiet (fail); try go_wp2)
              go_loopg [5] kj4 (fun kq v5 w' => ∃ (x5_3 : Int), v5 = .int .i64 x5_3 ∧ Aside0 (spec_RoutesValid.l1 kq l0 x3_1 x4_1 x5_3 = some r) ∧ Aside0 (kq ≤ kj4) ∧ Aside0 (Kd.R k127 127 w' w.heap.size (fun _ => True) u3 x3_1) ∧ Aside0 (Below w.heap.size w w'))
              case atStart => exact ⟨(0), (by first | rfl | (simp; done) | (simp [*]; done) | (simp [bne_nil_, beq_nil_]; done)), H', ⟨Nat.le_refl _⟩, ⟨by (with_reducible repeat (first | apply Kd.R_alloc | apply Kd.R_drewN | apply Kd.R_drew)); exact HO_3.out⟩, ⟨bp HB.out⟩⟩
              case round =>
                clear H'
                try clear p1
                try clear q1
                try clear hx1
                try clear p2
                try clear c4
                try clear c4b0
                try clear c6
                try clear c6b0
                try clear p6
                try clear c7
                try clear c7b0
                try clear c9
                try clear hx135_0
                try clear hx135_1
                try clear hx135_2
                try clear p1
                try clear p135
                try clear p2
                try clear q1
                try clear q135
                obtain ⟨x5_3, rfl, HA, HK3, HO_3, HB⟩ := hrel
                cases gk with
                | zero => exact absurd HA.out (by simp [spec_RoutesValid.l1])
                | succ k3 =>
                  have H := HA.out
                  clear HA
                  simp only [spec_RoutesValid.l1] at H
                  by_cases c10 : x5_3 < x4_1
                  · rw [if_pos c10] at H
                    have c10b0 : decide (x5_3 < x4_1) = true := decide_eq_true c10
                    clear c10
                    by_cases c11 : 0 ≤ x5_3
                    · rw [if_pos c11] at H
                      have c11b0 : decide (0 ≤ x5_3) = true := decide_eq_true c11
                      clear c11
                      by_cases c12 : x5_3 < (l0.length : Int)
                      · rw [if_pos c12] at H
                        have c12b0 : decide (x5_3 < (l0.length : Int)) = true := decide_eq_true c12
                        clear c12
                        by_cases c13 : 0 ≤ x4_1
                        · rw [if_pos c13] at H
                          have c13b0 : decide (0 ≤ x4_1) = true := decide_eq_true c13
                          clear c13
                          by_cases c14 : x4_1 < (l0.length : Int)
                          · rw [if_pos c14] at H
                            have c14b0 : decide (x4_1 < (l0.length : Int)) = true := decide_eq_true c14
                            clear c14
                            by_cases c15 : ((rd_T129 l0 x5_3).f0) = ((rd_T129 l0 x4_1).f0)
                            · rw [if_pos c15] at H
                              have c15b0 : (((rd_T129 l0 x5_3).f0) == ((rd_T129 l0 x4_1).f0)) = true := beq_iff_eq.mpr c15
                              have c15b1 : (((rd_T129 l0 x5_3).f0) != ((rd_T129 l0 x4_1).f0)) = false := bne_eq_false_iff_eq.mpr c15
                              clear c15
                              obtain rfl := Option.some.inj H
                              have p137 : 0 ≤ (x5_3 : Int) := of_decide_eq_true (by first | (with_reducible assumption) | assumption)
                              have q137 : x5_3 < (l0.length : Int) := of_decide_eq_true (by first | (with_reducible assumption) | assumption)
                              obtain ⟨ad137, e137, hx137_0, hx137_1, hx137_2⟩ := at_T129 HR0.out x5_3 p137 q137
                              cases e137
                              replace hx137_0 := (HB.out.cell (World.block_lt_of_cell? w _ hx137_0)).trans hx137_0
                              replace hx137_1 := (HB.out.cell (World.block_lt_of_cell? w _ hx137_1)).trans hx137_1
                              replace hx137_2 := (HB.out.cell (World.block_lt_of_cell? w _ hx137_2)).trans hx137_2
                              replace p137 := eq_true p137
                              replace q137 := eq_true q137
                              have p138 : 0 ≤ (x4_1 : Int) := of_decide_eq_true (by first | (with_reducible assumption) | assumption)
                              have q138 : x4_1 < (l0.length : Int) := of_decide_eq_true (by first | (with_reducible assumption) | assumption)
                              obtain ⟨ad138, e138, hx138_0, hx138_1, hx138_2⟩ := at_T129 HR0.out x4_1 p138 q138
                              obtain rfl : ad137 = ad138 := (by injection e138)
                              replace hx138_0 := (HB.out.cell (World.block_lt_of_cell? w _ hx138_0)).trans hx138_0
                              replace hx138_1 := (HB.out.cell (World.block_lt_of_cell? w _ hx138_1)).trans hx138_1
                              replace hx138_2 := (HB.out.cell (World.block_lt_of_cell? w _ hx138_2)).trans hx138_2
                              replace p138 := eq_true p138
                              replace q138 := eq_true q138
                              go_wp2
                              repeat (go_quiet (fail); try go_wp2)
                              go_ret
                              exact ⟨fe, bp HB.out⟩
                            · rw [if_neg c15] at H
                              have c15b0 : (((rd_T129 l0 x5_3).f0) == ((rd_T129 l0 x4_1).f0)) = false := beq_eq_false_iff_ne.mpr c15
                              have c15b1 : (((rd_T129 l0 x5_3).f0) != ((rd_T129 l0 x4_1).f0)) = true := bne_iff_ne.mpr c15
                              have H' := Aside0.mk H
                              clear H
                              have p137 : 0 ≤ (x5_3 : Int) := of_decide_eq_true (by first | (with_reducible assumption) | assumption)
                              have q137 : x5_3 < (l0.length : Int) := of_decide_eq_true (by first | (with_reducible assumption) | assumption)
                              obtain ⟨ad137, e137, hx137_0, hx137_1, hx137_2⟩ := at_T129 HR0.out x5_3 p137 q137
                              cases e137
                              replace hx137_0 := (HB.out.cell (World.block_lt_of_cell? w _ hx137_0)).trans hx137_0
                              replace hx137_1 := (HB.out.cell (World.block_lt_of_cell? w _ hx137_1)).trans hx137_1
                              replace hx137_2 := (HB.out.cell (World.block_lt_of_cell? w _ hx137_2)).trans hx137_2
                              replace p137 := eq_true p137
                              replace q137 := eq_true q137
                              have p138 : 0 ≤ (x4_1 : Int) := of_decide_eq_true (by first | (with_reducible assumption) | assumption)
                              have q138 : x4_1 < (l0.length : Int) := of_decide_eq_true (by first | (with_reducible assumption) | assumption)
                              obtain ⟨ad138, e138, hx138_0, hx138_1, hx138_2⟩ := at_T129 HR0.out x4_1 p138 q138
                              obtain rfl : ad137 = ad138 := (by injection e138)
                              replace hx138_0 := (HB.out.cell (World.block_lt_of_cell? w _ hx138_0)).trans hx138_0
                              replace hx138_1 := (HB.out.cell (World.block_lt_of_cell? w _ hx138_1)).trans hx138_1
                              replace hx138_2 := (HB.out.cell (World.block_lt_of_cell? w _ hx138_2)).trans hx138_2
                              replace p138 := eq_true p138
                              replace q138 := eq_true q138
                              go_wp2
                              repeat (go_quiet (fail); try go_wp2)
                              go_roundg k3
                              case measure => have := HK1.out; have := HJ4.out; have := HK3.out; omega
                              case rel => exact ⟨(wrap64 (x5_3 + 1)), (by first | rfl | (simp; done) | (simp [*]; done) | (simp [bne_nil_, beq_nil_]; done)), H', ⟨by have := HK1.out; have := HJ4.out; have := HK3.out; omega⟩, ⟨by (with_reducible repeat (first | apply Kd.R_alloc | apply Kd.R_drewN | apply Kd.R_drew)); exact HO_3.out⟩, ⟨bp HB.out⟩⟩
                          · rw [if_neg c14] at H
                            exact absurd H (by simp)
                        · rw [if_neg c13] at H
                          exact absurd H (by simp)
                      · rw [if_neg c12] at H
                        exact absurd H (by simp)
                    · rw [if_neg c11] at H
                      exact absurd H (by simp)
                  · rw [if_neg c10] at H
                    have c10b0 : decide (x5_3 < x4_1) = false := decide_eq_false c10
                    clear c10
                    by_cases c16 : 0 ≤ x4_1
                    · rw [if_pos c16] at H
                      have c16b0 : decide (0 ≤ x4_1) = true := decide_eq_true c16
                      clear c16
                      by_cases c17 : x4_1 < (l0.length : Int)
                      · rw [if_pos c17] at H
                        have c17b0 : decide (x4_1 < (l0.length : Int)) = true := decide_eq_true c17
                        clear c17
                        by_cases c18 : x3_1.length < 4398046511104
                        · rw [if_pos c18] at H
                          have LMc18 := Aside0.mk c18
                          clear c18
                          obtain ⟨y140, hy140⟩ : ∃ y_ : List (S127), y_ = (x3_1 ++ [(⟨(rd_T129 l0 x4_1).f1.f0, (rd_T129 l0 x4_1).f1.f1⟩ : S127)]) := ⟨_, rfl⟩
                          replace H : (spec_RoutesValid.l0 k3 l0 y140 (wrap64 (x4_1 + 1))) = some r := by first | (rw [hy140]; with_reducible exact H) | (have H2_ := (Option.bind_some _ _).symm.trans H; rw [hy140]; with_reducible exact H2_) | (have H2_ := (Option.bind_some _ _).symm.trans H; with_reducible exact H2_) | with_reducible exact H | (rw [hy140]; exact H) | exact H
                          have Ny140 := Aside0.mk hy140
                          clear hy140
                          have H' := Aside0.mk H
                          clear H
                          have p139 : 0 ≤ (x4_1 : Int) := of_decide_eq_true (by first | (with_reducible assumption) | assumption)
                          have q139 : x4_1 < (l0.length : Int) := of_decide_eq_true (by first | (with_reducible assumption) | assumption)
                          obtain ⟨ad139, e139, hx139_0, hx139_1, hx139_2⟩ := at_T129 HR0.out x4_1 p139 q139
                          cases e139
                          replace hx139_0 := (HB.out.cell (World.block_lt_of_cell? w _ hx139_0)).trans hx139_0
                          replace hx139_1 := (HB.out.cell (World.block_lt_of_cell? w _ hx139_1)).trans hx139_1
                          replace hx139_2 := (HB.out.cell (World.block_lt_of_cell? w _ hx139_2)).trans hx139_2
                          replace p139 := eq_true p139
                          replace q139 := eq_true q139
                          go_wp2_with (first | ((with_reducible refine gate_builtin (b := .append) (xs := #[.tmp 40, .tmp 46]) rfl ?_); at_builtin; refine Kd.R_append k127 (w0 := w) w.heap.size rfl (.tmp 40) (.tmp 46) 82 127 (.agg #[(.string ⟨#[]⟩), (.string ⟨#[]⟩)]) 32 rfl Try.underlying82 info127 rfl (by decide) (by omega) u3 x3_1 (⟨(rd_T129 l0 x4_1).f1.f0, (rd_T129 l0 x4_1).f1.f1⟩ : S127) [.string ((rd_T129 l0 x4_1).f1.f0), .string ((rd_T129 l0 x4_1).f1.f1)] (fun _ => True) (fun _ => False) rfl rfl ?aP (fun _ hk => hk.elim) ?aF ?aO ?aB ?aS ?aL ?_; (case aP => exact k127_mkM _ _ _ (⟨(rd_T129 l0 x4_1).f1.f0, (rd_T129 l0 x4_1).f1.f1⟩ : S127)); (case aB => exact (bp HB.out)); (case aF => exact (fun _ _ => trivial)); (case aO => exact (kr (HO_3.out))); (case aS => exact (below_size (bp HB.out))); (case aL => have := LMc18.out; omega); intro v141 w19 ho hb hg hat; rw [← Ny140.out] at ho; have n0_ := Aside0.mk (hb); have n1_ := Aside0.mk (ho); clear HB; clear HO_3; have HB := n0_; have HO142 := n1_; clear n0_ n1_; clear ho hb hg hat))
                          repeat (go_quiet (first | ((with_reducible refine gate_builtin (b := .append) (xs := #[.tmp 40, .tmp 46]) rfl ?_); at_builtin; refine Kd.R_append k127 (w0 := w) w.heap.size rfl (.tmp 40) (.tmp 46) 82 127 (.agg #[(.string ⟨#[]⟩), (.string ⟨#[]⟩)]) 32 rfl Try.underlying82 info127 rfl (by decide) (by omega) u3 x3_1 (⟨(rd_T129 l0 x4_1).f1.f0, (rd_T129 l0 x4_1).f1.f1⟩ : S127) [.string ((rd_T129 l0 x4_1).f1.f0), .string ((rd_T129 l0 x4_1).f1.f1)] (fun _ => True) (fun _ => False) rfl rfl ?aP (fun _ hk => hk.elim) ?aF ?aO ?aB ?aS ?aL ?_; (case aP => exact k127_mkM _ _ _ (⟨(rd_T129 l0 x4_1).f1.f0, (rd_T129 l0 x4_1).f1.f1⟩ : S127)); (case aB => exact (bp HB.out)); (case aF => exact (fun _ _ => trivial)); (case aO => exact (kr (HO_3.out))); (case aS => exact (below_size (bp HB.out))); (case aL => have := LMc18.out; omega); intro v141 w19 ho hb hg hat; rw [← Ny140.out] at ho; have n0_ := Aside0.mk (hb); have n1_ := Aside0.mk (ho); clear HB; clear HO_3; have HB := n0_; have HO142 := n1_; clear n0_ n1_; clear ho hb hg hat)); try go_wp2_with (first | ((with_reducible refine gate_builtin (b := .append) (xs := #[.tmp 40, .tmp 46]) rfl ?_); at_builtin; refine Kd.R_append k127 (w0 := w) w.heap.size rfl (.tmp 40) (.tmp 46) 82 127 (.agg #[(.string ⟨#[]⟩), (.string ⟨#[]⟩)]) 32 rfl Try.underlying82 info127 rfl (by decide) (by omega) u3 x3_1 (⟨(rd_T129 l0 x4_1).f1.f0, (rd_T129 l0 x4_1).f1.f1⟩ : S127) [.string ((rd_T129 l0 x4_1).f1.f0), .string ((rd_T129 l0 x4_1).f1.f1)] (fun _ => True) (fun _ => False) rfl rfl ?aP (fun _ hk => hk.elim) ?aF ?aO ?aB ?aS ?aL ?_; (case aP => exact k127_mkM _ _ _ (⟨(rd_T129 l0 x4_1).f1.f0, (rd_T129 l0 x4_1).f1.f1⟩ : S127)); (case aB => exact (bp HB.out)); (case aF => exact (fun _ _ => trivial)); (case aO => exact (kr (HO_3.out))); (case aS => exact (below_size (bp HB.out))); (case aL => have := LMc18.out; omega); intro v141 w19 ho hb hg hat; rw [← Ny140.out] at ho; have n0_ := Aside0.mk (hb); have n1_ := Aside0.mk (ho); clear HB; clear HO_3; have HB := n0_; have HO142 := n1_; clear n0_ n1_; clear ho hb hg hat)))
                          go_roundg k3
                          case measure => have := HK1.out; have := HJ4.out; have := HK3.out; omega
                          case rel => exact ⟨(y140), (wrap64 (x4_1 + 1)), (by first | rfl | (simp; done) | (simp [*]; done) | (simp [bne_nil_, beq_nil_]; done)), H', ⟨by have := HK1.out; have := HJ4.out; have := HK3.out; omega⟩, ⟨by (with_reducible repeat (first | apply Kd.R_alloc | apply Kd.R_drewN | apply Kd.R_drew)); exact HO142.out⟩, ⟨bp HB.out⟩⟩
                        · rw [if_neg c18] at H
                          exact absurd H (by simp)
                      · rw [if_neg c17] at H
                        exact absurd H (by simp)
                    · rw [if_neg c16] at H
                      exact absurd H (by simp)
      · rw [if_neg c4] at H
        have c4b0 : decide (x4_1 < (l0.length : Int)) = false := decide_eq_false c4
        clear c4
        replace H := Option.bind_eq_some_iff.mp H
        obtain ⟨t134, A200, H⟩ := H
        replace H : (some t134) = some r := H
        have A20 := Aside0.mk A200
        clear A200
        obtain rfl := Option.some.inj H
        obtain ⟨Ao21, co21, eo21⟩ := Kd.R_slice HO_3.out
        subst eo21
        go_wp2_with (first | (go_at_call 118; (with_reducible refine (spec_PartitionValid.calls k1 _ _ x3_1 t134 _ ?side1 ?side2 A20.out).mono ?_); (case side1 => repeat (first | exact (Kd.R_reads' HO_3.out).2.2 | (with_reducible refine Kd.C_alloc ?_ _) | (with_reducible refine Kd.C_drewN ?_ _) | (with_reducible refine Kd.C_drew ?_))); (case side2 => exact (Kd.R_reads' HO_3.out).2.1); rintro e w22 ⟨rfl, hb⟩; have n0_ := Aside0.mk (Kd.R_below (kr (HO_3.out)) hb); have n1_ := an0 HB hb; clear HO_3; clear HB; have HO_3 := n0_; have HB := n1_; clear n0_ n1_; (try clear hb); (try clear hb2); (try clear hk); (try clear hi)))
        repeat (go_quiet (first | (go_at_call 118; (with_reducible refine (spec_PartitionValid.calls k1 _ _ x3_1 t134 _ ?side1 ?side2 A20.out).mono ?_); (case side1 => repeat (first | exact (Kd.R_reads' HO_3.out).2.2 | (with_reducible refine Kd.C_alloc ?_ _) | (with_reducible refine Kd.C_drewN ?_ _) | (with_reducible refine Kd.C_drew ?_))); (case side2 => exact (Kd.R_reads' HO_3.out).2.1); rintro e w22 ⟨rfl, hb⟩; have n0_ := Aside0.mk (Kd.R_below (kr (HO_3.out)) hb); have n1_ := an0 HB hb; clear HO_3; clear HB; have HO_3 := n0_; have HB := n1_; clear n0_ n1_; (try clear hb); (try clear hb2); (try clear hk); (try clear hi))); try go_wp2_with (first | (go_at_call 118; (with_reducible refine (spec_PartitionValid.calls k1 _ _ x3_1 t134 _ ?side1 ?side2 A20.out).mono ?_); (case side1 => repeat (first | exact (Kd.R_reads' HO_3.out).2.2 | (with_reducible refine Kd.C_alloc ?_ _) | (with_reducible refine Kd.C_drewN ?_ _) | (with_reducible refine Kd.C_drew ?_))); (case side2 => exact (Kd.R_reads' HO_3.out).2.1); rintro e w22 ⟨rfl, hb⟩; have n0_ := Aside0.mk (Kd.R_below (kr (HO_3.out)) hb); have n1_ := an0 HB hb; clear HO_3; clear HB; have HO_3 := n0_; have HB := n1_; clear n0_ n1_; (try clear hb); (try clear hb2); (try clear hk); (try clear hi))))
        go_ret
        exact ⟨fe, bp HB.out⟩

/-! ### spec_PlanValid: function 135 -/
def spec_PlanValid.f (k : Nat) (a0_0 : Int) (a0_1 : Int) (a0_2 : Int) (a0_3 : ByteArray) (a0_4 : Int) (a0_5 : Int) (a0_6 : Int) : Option (Bool) := (spec_l1In.f a0_1 0 7).bind fun t144 => (if t144 = true then (if a0_0 = 1 then ((spec_KeyValid.f k a0_3).bind fun t145 => (if t145 = true then (if a0_2 = 0 then (if a0_4 = 0 then (if a0_5 = 0 then (some (a0_6 == 0)) else (some false)) else (some false)) else (some false)) else (some false))) else (if a0_0 = 2 then ((spec_l1In.f a0_2 0 7).bind fun t146 => (if t146 = true then (if a0_2 = a0_1 then (some false) else (if a0_3.toList = ([] : List UInt8) then (if a0_4 = 0 then (if a0_5 = 0 then (some (a0_6 == 0)) else (some false)) else (some false)) else (some false))) else (some false))) else (if a0_0 = 3 then ((spec_l1In.f a0_4 0 4).bind fun t147 => (if t147 = true then ((spec_l1In.f a0_5 0 4).bind fun t148 => (if t148 = true then (if a0_4 = a0_5 then (some false) else ((spec_l1In.f a0_6 0 1).bind fun t149 => (if t149 = true then (if a0_2 = 0 then (some (a0_3.toList == ([] : List UInt8))) else (some false)) else (some false)))) else (some false))) else (some false))) else (some false)))) else (some false))
theorem spec_PlanValid.mono : ∀ a0 a1 a2 a3 a4 a5 a6 k, LeO (spec_PlanValid.f k a0 a1 a2 a3 a4 a5 a6) (spec_PlanValid.f (k + 1) a0 a1 a2 a3 a4 a5 a6) := by
  intro a0 a1 a2 a3 a4 a5 a6 k
  unfold spec_PlanValid.f
  repeat' first
      | (with_reducible exact spec_KeyValid.mono _ _)
      | (with_reducible exact LeO.refl _)
      | (with_reducible exact LeO.none _)
      | (with_reducible refine LeO.ite ?_ ?_)
      | (with_reducible refine LeO.bind ?_ (fun _ => ?_))
      | exact spec_KeyValid.mono _ _
      | exact LeO.none _
      | refine LeO.ite ?_ ?_
      | refine LeO.bind ?_ (fun _ => ?_)
set_option maxHeartbeats 8000000 in
set_option maxRecDepth 100000 in
theorem spec_PlanValid.calls (k : Nat) (a0_0 : Int) (a0_1 : Int) (a0_2 : Int) (a0_3 : ByteArray) (a0_4 : Int) (a0_5 : Int) (a0_6 : Int) (r : Bool) (w : World) (h : spec_PlanValid.f k a0_0 a0_1 a0_2 a0_3 a0_4 a0_5 a0_6 = some r) :
    Calls Try.prog 135 #[.agg #[.int .i64 a0_0, .int .i64 a0_1, .int .i64 a0_2, .string a0_3, .int .i64 a0_4, .int .i64 a0_5, .int .i64 a0_6]] w fun e w' => e = .returned (.bool r) ∧ Below w.heap.size w w' := by
  have hu64 := Try.underlying64
  have HB := Aside0.mk (Below.refl w.heap.size w)
  have H : ((spec_l1In.f a0_1 0 7).bind fun t144 => (if t144 = true then (if a0_0 = 1 then ((spec_KeyValid.f k a0_3).bind fun t145 => (if t145 = true then (if a0_2 = 0 then (if a0_4 = 0 then (if a0_5 = 0 then (some (a0_6 == 0)) else (some false)) else (some false)) else (some false)) else (some false))) else (if a0_0 = 2 then ((spec_l1In.f a0_2 0 7).bind fun t146 => (if t146 = true then (if a0_2 = a0_1 then (some false) else (if a0_3.toList = ([] : List UInt8) then (if a0_4 = 0 then (if a0_5 = 0 then (some (a0_6 == 0)) else (some false)) else (some false)) else (some false))) else (some false))) else (if a0_0 = 3 then ((spec_l1In.f a0_4 0 4).bind fun t147 => (if t147 = true then ((spec_l1In.f a0_5 0 4).bind fun t148 => (if t148 = true then (if a0_4 = a0_5 then (some false) else ((spec_l1In.f a0_6 0 1).bind fun t149 => (if t149 = true then (if a0_2 = 0 then (some (a0_3.toList == ([] : List UInt8))) else (some false)) else (some false)))) else (some false))) else (some false))) else (some false)))) else (some false))) = some r := h
  clear h
  replace H := Option.bind_eq_some_iff.mp H
  obtain ⟨t144, A20, H⟩ := H
  replace H : (if t144 = true then (if a0_0 = 1 then ((spec_KeyValid.f k a0_3).bind fun t145 => (if t145 = true then (if a0_2 = 0 then (if a0_4 = 0 then (if a0_5 = 0 then (some (a0_6 == 0)) else (some false)) else (some false)) else (some false)) else (some false))) else (if a0_0 = 2 then ((spec_l1In.f a0_2 0 7).bind fun t146 => (if t146 = true then (if a0_2 = a0_1 then (some false) else (if a0_3.toList = ([] : List UInt8) then (if a0_4 = 0 then (if a0_5 = 0 then (some (a0_6 == 0)) else (some false)) else (some false)) else (some false))) else (some false))) else (if a0_0 = 3 then ((spec_l1In.f a0_4 0 4).bind fun t147 => (if t147 = true then ((spec_l1In.f a0_5 0 4).bind fun t148 => (if t148 = true then (if a0_4 = a0_5 then (some false) else ((spec_l1In.f a0_6 0 1).bind fun t149 => (if t149 = true then (if a0_2 = 0 then (some (a0_3.toList == ([] : List UInt8))) else (some false)) else (some false)))) else (some false))) else (some false))) else (some false)))) else (some false)) = some r := H
  have A2 := Aside0.mk A20
  clear A20
  by_cases c3 : t144 = true
  · subst c3
    have H1 : (if a0_0 = 1 then ((spec_KeyValid.f k a0_3).bind fun t145 => (if t145 = true then (if a0_2 = 0 then (if a0_4 = 0 then (if a0_5 = 0 then (some (a0_6 == 0)) else (some false)) else (some false)) else (some false)) else (some false))) else (if a0_0 = 2 then ((spec_l1In.f a0_2 0 7).bind fun t146 => (if t146 = true then (if a0_2 = a0_1 then (some false) else (if a0_3.toList = ([] : List UInt8) then (if a0_4 = 0 then (if a0_5 = 0 then (some (a0_6 == 0)) else (some false)) else (some false)) else (some false))) else (some false))) else (if a0_0 = 3 then ((spec_l1In.f a0_4 0 4).bind fun t147 => (if t147 = true then ((spec_l1In.f a0_5 0 4).bind fun t148 => (if t148 = true then (if a0_4 = a0_5 then (some false) else ((spec_l1In.f a0_6 0 1).bind fun t149 => (if t149 = true then (if a0_2 = 0 then (some (a0_3.toList == ([] : List UInt8))) else (some false)) else (some false)))) else (some false))) else (some false))) else (some false)))) = some r := by rw [if_pos rfl] at H; exact H
    clear H
    have H := H1
    clear H1
    by_cases c4 : a0_0 = 1
    · rw [if_pos c4] at H
      have c4b0 : (a0_0 == 1) = true := beq_iff_eq.mpr c4
      have c4b1 : (a0_0 != 1) = false := bne_eq_false_iff_eq.mpr c4
      clear c4
      replace H := Option.bind_eq_some_iff.mp H
      obtain ⟨t145, A50, H⟩ := H
      replace H : (if t145 = true then (if a0_2 = 0 then (if a0_4 = 0 then (if a0_5 = 0 then (some (a0_6 == 0)) else (some false)) else (some false)) else (some false)) else (some false)) = some r := H
      have A5 := Aside0.mk A50
      clear A50
      by_cases c6 : t145 = true
      · subst c6
        have H1 : (if a0_2 = 0 then (if a0_4 = 0 then (if a0_5 = 0 then (some (a0_6 == 0)) else (some false)) else (some false)) else (some false)) = some r := by rw [if_pos rfl] at H; exact H
        clear H
        have H := H1
        clear H1
        by_cases c7 : a0_2 = 0
        · rw [if_pos c7] at H
          have c7b0 : (a0_2 == 0) = true := beq_iff_eq.mpr c7
          have c7b1 : (a0_2 != 0) = false := bne_eq_false_iff_eq.mpr c7
          clear c7
          by_cases c8 : a0_4 = 0
          · rw [if_pos c8] at H
            have c8b0 : (a0_4 == 0) = true := beq_iff_eq.mpr c8
            have c8b1 : (a0_4 != 0) = false := bne_eq_false_iff_eq.mpr c8
            clear c8
            by_cases c9 : a0_5 = 0
            · rw [if_pos c9] at H
              have c9b0 : (a0_5 == 0) = true := beq_iff_eq.mpr c9
              have c9b1 : (a0_5 != 0) = false := bne_eq_false_iff_eq.mpr c9
              clear c9
              obtain rfl := Option.some.inj H
              go_enter Try.func135, Try.ntmps135
              go_wp2_with (first | ((with_reducible refine gate_dst (N := 1) rfl ?_); refine bxe (N := 1) (cs := #[.int .i64 a0_0, .int .i64 a0_1, .int .i64 a0_2, .string a0_3, .int .i64 a0_4, .int .i64 a0_5, .int .i64 a0_6]) (t := 64) ?_; intro gb143 hg w10 hbox hb; have BK143 := Aside0.mk (hbox); have GW143 := an2 HB hg; have GE143 := an2 HB hg; replace HB := an0 HB hb; clear hb hbox hg; obtain ⟨hcz11_0, hcz11_1, hcz11_2, hcz11_3, hcz11_4, hcz11_5, hcz11_6, hfz11_0, hfz11_1, hfz11_2, hfz11_3, hfz11_4, hfz11_5, hfz11_6⟩ := cl7 BK143) | ((with_reducible refine gate_callee (f := 71) rfl ?_); refine gsl (some 5) rfl Try.func71 #[.int .i64 a0_1, .int .i64 0, .int .i64 7] rfl ?_; (with_reducible refine (spec_l1In.calls a0_1 0 7 true _ A2.out).mono ?_); rintro e w' ⟨rfl, ⟨nd, rfl⟩⟩; refine ⟨_, rfl, ?_⟩) | ((with_reducible refine gate_callee (f := 70) rfl ?_); refine gsl (some 13) rfl Try.func70 #[.string a0_3] rfl ?_; (with_reducible refine (spec_KeyValid.calls k a0_3 true _ A5.out).mono ?_); rintro e w' ⟨rfl, ⟨nd, rfl⟩⟩; refine ⟨_, rfl, ?_⟩))
              go_ret
              exact ⟨fe, bp HB.out⟩
            · rw [if_neg c9] at H
              have c9b0 : (a0_5 == 0) = false := beq_eq_false_iff_ne.mpr c9
              have c9b1 : (a0_5 != 0) = true := bne_iff_ne.mpr c9
              obtain rfl := Option.some.inj H
              go_enter Try.func135, Try.ntmps135
              go_wp2_with (first | ((with_reducible refine gate_dst (N := 1) rfl ?_); refine bxe (N := 1) (cs := #[.int .i64 a0_0, .int .i64 a0_1, .int .i64 a0_2, .string a0_3, .int .i64 a0_4, .int .i64 a0_5, .int .i64 a0_6]) (t := 64) ?_; intro gb143 hg w12 hbox hb; have BK143 := Aside0.mk (hbox); have GW143 := an2 HB hg; have GE143 := an2 HB hg; replace HB := an0 HB hb; clear hb hbox hg; obtain ⟨hcz13_0, hcz13_1, hcz13_2, hcz13_3, hcz13_4, hcz13_5, hcz13_6, hfz13_0, hfz13_1, hfz13_2, hfz13_3, hfz13_4, hfz13_5, hfz13_6⟩ := cl7 BK143) | ((with_reducible refine gate_callee (f := 71) rfl ?_); refine gsl (some 5) rfl Try.func71 #[.int .i64 a0_1, .int .i64 0, .int .i64 7] rfl ?_; (with_reducible refine (spec_l1In.calls a0_1 0 7 true _ A2.out).mono ?_); rintro e w' ⟨rfl, ⟨nd, rfl⟩⟩; refine ⟨_, rfl, ?_⟩) | ((with_reducible refine gate_callee (f := 70) rfl ?_); refine gsl (some 13) rfl Try.func70 #[.string a0_3] rfl ?_; (with_reducible refine (spec_KeyValid.calls k a0_3 true _ A5.out).mono ?_); rintro e w' ⟨rfl, ⟨nd, rfl⟩⟩; refine ⟨_, rfl, ?_⟩))
              go_ret
              exact ⟨fe, bp HB.out⟩
          · rw [if_neg c8] at H
            have c8b0 : (a0_4 == 0) = false := beq_eq_false_iff_ne.mpr c8
            have c8b1 : (a0_4 != 0) = true := bne_iff_ne.mpr c8
            obtain rfl := Option.some.inj H
            go_enter Try.func135, Try.ntmps135
            go_wp2_with (first | ((with_reducible refine gate_dst (N := 1) rfl ?_); refine bxe (N := 1) (cs := #[.int .i64 a0_0, .int .i64 a0_1, .int .i64 a0_2, .string a0_3, .int .i64 a0_4, .int .i64 a0_5, .int .i64 a0_6]) (t := 64) ?_; intro gb143 hg w14 hbox hb; have BK143 := Aside0.mk (hbox); have GW143 := an2 HB hg; have GE143 := an2 HB hg; replace HB := an0 HB hb; clear hb hbox hg; obtain ⟨hcz15_0, hcz15_1, hcz15_2, hcz15_3, hcz15_4, hcz15_5, hcz15_6, hfz15_0, hfz15_1, hfz15_2, hfz15_3, hfz15_4, hfz15_5, hfz15_6⟩ := cl7 BK143) | ((with_reducible refine gate_callee (f := 71) rfl ?_); refine gsl (some 5) rfl Try.func71 #[.int .i64 a0_1, .int .i64 0, .int .i64 7] rfl ?_; (with_reducible refine (spec_l1In.calls a0_1 0 7 true _ A2.out).mono ?_); rintro e w' ⟨rfl, ⟨nd, rfl⟩⟩; refine ⟨_, rfl, ?_⟩) | ((with_reducible refine gate_callee (f := 70) rfl ?_); refine gsl (some 13) rfl Try.func70 #[.string a0_3] rfl ?_; (with_reducible refine (spec_KeyValid.calls k a0_3 true _ A5.out).mono ?_); rintro e w' ⟨rfl, ⟨nd, rfl⟩⟩; refine ⟨_, rfl, ?_⟩))
            go_ret
            exact ⟨fe, bp HB.out⟩
        · rw [if_neg c7] at H
          have c7b0 : (a0_2 == 0) = false := beq_eq_false_iff_ne.mpr c7
          have c7b1 : (a0_2 != 0) = true := bne_iff_ne.mpr c7
          obtain rfl := Option.some.inj H
          go_enter Try.func135, Try.ntmps135
          go_wp2_with (first | ((with_reducible refine gate_dst (N := 1) rfl ?_); refine bxe (N := 1) (cs := #[.int .i64 a0_0, .int .i64 a0_1, .int .i64 a0_2, .string a0_3, .int .i64 a0_4, .int .i64 a0_5, .int .i64 a0_6]) (t := 64) ?_; intro gb143 hg w16 hbox hb; have BK143 := Aside0.mk (hbox); have GW143 := an2 HB hg; have GE143 := an2 HB hg; replace HB := an0 HB hb; clear hb hbox hg; obtain ⟨hcz17_0, hcz17_1, hcz17_2, hcz17_3, hcz17_4, hcz17_5, hcz17_6, hfz17_0, hfz17_1, hfz17_2, hfz17_3, hfz17_4, hfz17_5, hfz17_6⟩ := cl7 BK143) | ((with_reducible refine gate_callee (f := 71) rfl ?_); refine gsl (some 5) rfl Try.func71 #[.int .i64 a0_1, .int .i64 0, .int .i64 7] rfl ?_; (with_reducible refine (spec_l1In.calls a0_1 0 7 true _ A2.out).mono ?_); rintro e w' ⟨rfl, ⟨nd, rfl⟩⟩; refine ⟨_, rfl, ?_⟩) | ((with_reducible refine gate_callee (f := 70) rfl ?_); refine gsl (some 13) rfl Try.func70 #[.string a0_3] rfl ?_; (with_reducible refine (spec_KeyValid.calls k a0_3 true _ A5.out).mono ?_); rintro e w' ⟨rfl, ⟨nd, rfl⟩⟩; refine ⟨_, rfl, ?_⟩))
          go_ret
          exact ⟨fe, bp HB.out⟩
      · replace c6 := Bool.eq_false_iff.mpr c6
        subst c6
        have H1 : (some false) = some r := by rw [if_neg (show ¬ (false = true) by decide)] at H; exact H
        clear H
        have H := H1
        clear H1
        obtain rfl := Option.some.inj H
        go_enter Try.func135, Try.ntmps135
        go_wp2_with (first | ((with_reducible refine gate_dst (N := 1) rfl ?_); refine bxe (N := 1) (cs := #[.int .i64 a0_0, .int .i64 a0_1, .int .i64 a0_2, .string a0_3, .int .i64 a0_4, .int .i64 a0_5, .int .i64 a0_6]) (t := 64) ?_; intro gb143 hg w18 hbox hb; have BK143 := Aside0.mk (hbox); have GW143 := an2 HB hg; have GE143 := an2 HB hg; replace HB := an0 HB hb; clear hb hbox hg; obtain ⟨hcz19_0, hcz19_1, hcz19_2, hcz19_3, hcz19_4, hcz19_5, hcz19_6, hfz19_0, hfz19_1, hfz19_2, hfz19_3, hfz19_4, hfz19_5, hfz19_6⟩ := cl7 BK143) | ((with_reducible refine gate_callee (f := 71) rfl ?_); refine gsl (some 5) rfl Try.func71 #[.int .i64 a0_1, .int .i64 0, .int .i64 7] rfl ?_; (with_reducible refine (spec_l1In.calls a0_1 0 7 true _ A2.out).mono ?_); rintro e w' ⟨rfl, ⟨nd, rfl⟩⟩; refine ⟨_, rfl, ?_⟩) | ((with_reducible refine gate_callee (f := 70) rfl ?_); refine gsl (some 13) rfl Try.func70 #[.string a0_3] rfl ?_; (with_reducible refine (spec_KeyValid.calls k a0_3 false _ A5.out).mono ?_); rintro e w' ⟨rfl, ⟨nd, rfl⟩⟩; refine ⟨_, rfl, ?_⟩))
        go_ret
        exact ⟨fe, bp HB.out⟩
    · rw [if_neg c4] at H
      have c4b0 : (a0_0 == 1) = false := beq_eq_false_iff_ne.mpr c4
      have c4b1 : (a0_0 != 1) = true := bne_iff_ne.mpr c4
      by_cases c20 : a0_0 = 2
      · rw [if_pos c20] at H
        have c20b0 : (a0_0 == 2) = true := beq_iff_eq.mpr c20
        have c20b1 : (a0_0 != 2) = false := bne_eq_false_iff_eq.mpr c20
        clear c20
        replace H := Option.bind_eq_some_iff.mp H
        obtain ⟨t146, A210, H⟩ := H
        replace H : (if t146 = true then (if a0_2 = a0_1 then (some false) else (if a0_3.toList = ([] : List UInt8) then (if a0_4 = 0 then (if a0_5 = 0 then (some (a0_6 == 0)) else (some false)) else (some false)) else (some false))) else (some false)) = some r := H
        have A21 := Aside0.mk A210
        clear A210
        by_cases c22 : t146 = true
        · subst c22
          have H1 : (if a0_2 = a0_1 then (some false) else (if a0_3.toList = ([] : List UInt8) then (if a0_4 = 0 then (if a0_5 = 0 then (some (a0_6 == 0)) else (some false)) else (some false)) else (some false))) = some r := by rw [if_pos rfl] at H; exact H
          clear H
          have H := H1
          clear H1
          by_cases c23 : a0_2 = a0_1
          · rw [if_pos c23] at H
            have c23b0 : (a0_2 == a0_1) = true := beq_iff_eq.mpr c23
            have c23b1 : (a0_2 != a0_1) = false := bne_eq_false_iff_eq.mpr c23
            clear c23
            obtain rfl := Option.some.inj H
            go_enter Try.func135, Try.ntmps135
            go_wp2_with (first | ((with_reducible refine gate_dst (N := 1) rfl ?_); refine bxe (N := 1) (cs := #[.int .i64 a0_0, .int .i64 a0_1, .int .i64 a0_2, .string a0_3, .int .i64 a0_4, .int .i64 a0_5, .int .i64 a0_6]) (t := 64) ?_; intro gb143 hg w24 hbox hb; have BK143 := Aside0.mk (hbox); have GW143 := an2 HB hg; have GE143 := an2 HB hg; replace HB := an0 HB hb; clear hb hbox hg; obtain ⟨hcz25_0, hcz25_1, hcz25_2, hcz25_3, hcz25_4, hcz25_5, hcz25_6, hfz25_0, hfz25_1, hfz25_2, hfz25_3, hfz25_4, hfz25_5, hfz25_6⟩ := cl7 BK143) | ((with_reducible refine gate_callee (f := 71) rfl ?_); refine gsl (some 5) rfl Try.func71 #[.int .i64 a0_1, .int .i64 0, .int .i64 7] rfl ?_; (with_reducible refine (spec_l1In.calls a0_1 0 7 true _ A2.out).mono ?_); rintro e w' ⟨rfl, ⟨nd, rfl⟩⟩; refine ⟨_, rfl, ?_⟩) | ((with_reducible refine gate_callee (f := 71) rfl ?_); refine gsl (some 38) rfl Try.func71 #[.int .i64 a0_2, .int .i64 0, .int .i64 7] rfl ?_; (with_reducible refine (spec_l1In.calls a0_2 0 7 true _ A21.out).mono ?_); rintro e w' ⟨rfl, ⟨nd, rfl⟩⟩; refine ⟨_, rfl, ?_⟩))
            go_ret
            exact ⟨fe, bp HB.out⟩
          · rw [if_neg c23] at H
            have c23b0 : (a0_2 == a0_1) = false := beq_eq_false_iff_ne.mpr c23
            have c23b1 : (a0_2 != a0_1) = true := bne_iff_ne.mpr c23
            by_cases c26 : a0_3.toList = ([] : List UInt8)
            · rw [if_pos c26] at H
              have c26b0 : (a0_3.toList == ([] : List UInt8)) = true := beq_iff_eq.mpr c26
              have c26b1 : (a0_3.toList != ([] : List UInt8)) = false := bne_eq_false_iff_eq.mpr c26
              clear c26
              by_cases c27 : a0_4 = 0
              · rw [if_pos c27] at H
                have c27b0 : (a0_4 == 0) = true := beq_iff_eq.mpr c27
                have c27b1 : (a0_4 != 0) = false := bne_eq_false_iff_eq.mpr c27
                clear c27
                by_cases c28 : a0_5 = 0
                · rw [if_pos c28] at H
                  have c28b0 : (a0_5 == 0) = true := beq_iff_eq.mpr c28
                  have c28b1 : (a0_5 != 0) = false := bne_eq_false_iff_eq.mpr c28
                  clear c28
                  obtain rfl := Option.some.inj H
                  go_enter Try.func135, Try.ntmps135
                  go_wp2_with (first | ((with_reducible refine gate_dst (N := 1) rfl ?_); refine bxe (N := 1) (cs := #[.int .i64 a0_0, .int .i64 a0_1, .int .i64 a0_2, .string a0_3, .int .i64 a0_4, .int .i64 a0_5, .int .i64 a0_6]) (t := 64) ?_; intro gb143 hg w29 hbox hb; have BK143 := Aside0.mk (hbox); have GW143 := an2 HB hg; have GE143 := an2 HB hg; replace HB := an0 HB hb; clear hb hbox hg; obtain ⟨hcz30_0, hcz30_1, hcz30_2, hcz30_3, hcz30_4, hcz30_5, hcz30_6, hfz30_0, hfz30_1, hfz30_2, hfz30_3, hfz30_4, hfz30_5, hfz30_6⟩ := cl7 BK143) | ((with_reducible refine gate_callee (f := 71) rfl ?_); refine gsl (some 5) rfl Try.func71 #[.int .i64 a0_1, .int .i64 0, .int .i64 7] rfl ?_; (with_reducible refine (spec_l1In.calls a0_1 0 7 true _ A2.out).mono ?_); rintro e w' ⟨rfl, ⟨nd, rfl⟩⟩; refine ⟨_, rfl, ?_⟩) | ((with_reducible refine gate_callee (f := 71) rfl ?_); refine gsl (some 38) rfl Try.func71 #[.int .i64 a0_2, .int .i64 0, .int .i64 7] rfl ?_; (with_reducible refine (spec_l1In.calls a0_2 0 7 true _ A21.out).mono ?_); rintro e w' ⟨rfl, ⟨nd, rfl⟩⟩; refine ⟨_, rfl, ?_⟩))
                  go_ret
                  exact ⟨fe, bp HB.out⟩
                · rw [if_neg c28] at H
                  have c28b0 : (a0_5 == 0) = false := beq_eq_false_iff_ne.mpr c28
                  have c28b1 : (a0_5 != 0) = true := bne_iff_ne.mpr c28
                  obtain rfl := Option.some.inj H
                  go_enter Try.func135, Try.ntmps135
                  go_wp2_with (first | ((with_reducible refine gate_dst (N := 1) rfl ?_); refine bxe (N := 1) (cs := #[.int .i64 a0_0, .int .i64 a0_1, .int .i64 a0_2, .string a0_3, .int .i64 a0_4, .int .i64 a0_5, .int .i64 a0_6]) (t := 64) ?_; intro gb143 hg w31 hbox hb; have BK143 := Aside0.mk (hbox); have GW143 := an2 HB hg; have GE143 := an2 HB hg; replace HB := an0 HB hb; clear hb hbox hg; obtain ⟨hcz32_0, hcz32_1, hcz32_2, hcz32_3, hcz32_4, hcz32_5, hcz32_6, hfz32_0, hfz32_1, hfz32_2, hfz32_3, hfz32_4, hfz32_5, hfz32_6⟩ := cl7 BK143) | ((with_reducible refine gate_callee (f := 71) rfl ?_); refine gsl (some 5) rfl Try.func71 #[.int .i64 a0_1, .int .i64 0, .int .i64 7] rfl ?_; (with_reducible refine (spec_l1In.calls a0_1 0 7 true _ A2.out).mono ?_); rintro e w' ⟨rfl, ⟨nd, rfl⟩⟩; refine ⟨_, rfl, ?_⟩) | ((with_reducible refine gate_callee (f := 71) rfl ?_); refine gsl (some 38) rfl Try.func71 #[.int .i64 a0_2, .int .i64 0, .int .i64 7] rfl ?_; (with_reducible refine (spec_l1In.calls a0_2 0 7 true _ A21.out).mono ?_); rintro e w' ⟨rfl, ⟨nd, rfl⟩⟩; refine ⟨_, rfl, ?_⟩))
                  go_ret
                  exact ⟨fe, bp HB.out⟩
              · rw [if_neg c27] at H
                have c27b0 : (a0_4 == 0) = false := beq_eq_false_iff_ne.mpr c27
                have c27b1 : (a0_4 != 0) = true := bne_iff_ne.mpr c27
                obtain rfl := Option.some.inj H
                go_enter Try.func135, Try.ntmps135
                go_wp2_with (first | ((with_reducible refine gate_dst (N := 1) rfl ?_); refine bxe (N := 1) (cs := #[.int .i64 a0_0, .int .i64 a0_1, .int .i64 a0_2, .string a0_3, .int .i64 a0_4, .int .i64 a0_5, .int .i64 a0_6]) (t := 64) ?_; intro gb143 hg w33 hbox hb; have BK143 := Aside0.mk (hbox); have GW143 := an2 HB hg; have GE143 := an2 HB hg; replace HB := an0 HB hb; clear hb hbox hg; obtain ⟨hcz34_0, hcz34_1, hcz34_2, hcz34_3, hcz34_4, hcz34_5, hcz34_6, hfz34_0, hfz34_1, hfz34_2, hfz34_3, hfz34_4, hfz34_5, hfz34_6⟩ := cl7 BK143) | ((with_reducible refine gate_callee (f := 71) rfl ?_); refine gsl (some 5) rfl Try.func71 #[.int .i64 a0_1, .int .i64 0, .int .i64 7] rfl ?_; (with_reducible refine (spec_l1In.calls a0_1 0 7 true _ A2.out).mono ?_); rintro e w' ⟨rfl, ⟨nd, rfl⟩⟩; refine ⟨_, rfl, ?_⟩) | ((with_reducible refine gate_callee (f := 71) rfl ?_); refine gsl (some 38) rfl Try.func71 #[.int .i64 a0_2, .int .i64 0, .int .i64 7] rfl ?_; (with_reducible refine (spec_l1In.calls a0_2 0 7 true _ A21.out).mono ?_); rintro e w' ⟨rfl, ⟨nd, rfl⟩⟩; refine ⟨_, rfl, ?_⟩))
                go_ret
                exact ⟨fe, bp HB.out⟩
            · rw [if_neg c26] at H
              have c26b0 : (a0_3.toList == ([] : List UInt8)) = false := beq_eq_false_iff_ne.mpr c26
              have c26b1 : (a0_3.toList != ([] : List UInt8)) = true := bne_iff_ne.mpr c26
              obtain rfl := Option.some.inj H
              go_enter Try.func135, Try.ntmps135
              go_wp2_with (first | ((with_reducible refine gate_dst (N := 1) rfl ?_); refine bxe (N := 1) (cs := #[.int .i64 a0_0, .int .i64 a0_1, .int .i64 a0_2, .string a0_3, .int .i64 a0_4, .int .i64 a0_5, .int .i64 a0_6]) (t := 64) ?_; intro gb143 hg w35 hbox hb; have BK143 := Aside0.mk (hbox); have GW143 := an2 HB hg; have GE143 := an2 HB hg; replace HB := an0 HB hb; clear hb hbox hg; obtain ⟨hcz36_0, hcz36_1, hcz36_2, hcz36_3, hcz36_4, hcz36_5, hcz36_6, hfz36_0, hfz36_1, hfz36_2, hfz36_3, hfz36_4, hfz36_5, hfz36_6⟩ := cl7 BK143) | ((with_reducible refine gate_callee (f := 71) rfl ?_); refine gsl (some 5) rfl Try.func71 #[.int .i64 a0_1, .int .i64 0, .int .i64 7] rfl ?_; (with_reducible refine (spec_l1In.calls a0_1 0 7 true _ A2.out).mono ?_); rintro e w' ⟨rfl, ⟨nd, rfl⟩⟩; refine ⟨_, rfl, ?_⟩) | ((with_reducible refine gate_callee (f := 71) rfl ?_); refine gsl (some 38) rfl Try.func71 #[.int .i64 a0_2, .int .i64 0, .int .i64 7] rfl ?_; (with_reducible refine (spec_l1In.calls a0_2 0 7 true _ A21.out).mono ?_); rintro e w' ⟨rfl, ⟨nd, rfl⟩⟩; refine ⟨_, rfl, ?_⟩))
              go_ret
              exact ⟨fe, bp HB.out⟩
        · replace c22 := Bool.eq_false_iff.mpr c22
          subst c22
          have H1 : (some false) = some r := by rw [if_neg (show ¬ (false = true) by decide)] at H; exact H
          clear H
          have H := H1
          clear H1
          obtain rfl := Option.some.inj H
          go_enter Try.func135, Try.ntmps135
          go_wp2_with (first | ((with_reducible refine gate_dst (N := 1) rfl ?_); refine bxe (N := 1) (cs := #[.int .i64 a0_0, .int .i64 a0_1, .int .i64 a0_2, .string a0_3, .int .i64 a0_4, .int .i64 a0_5, .int .i64 a0_6]) (t := 64) ?_; intro gb143 hg w37 hbox hb; have BK143 := Aside0.mk (hbox); have GW143 := an2 HB hg; have GE143 := an2 HB hg; replace HB := an0 HB hb; clear hb hbox hg; obtain ⟨hcz38_0, hcz38_1, hcz38_2, hcz38_3, hcz38_4, hcz38_5, hcz38_6, hfz38_0, hfz38_1, hfz38_2, hfz38_3, hfz38_4, hfz38_5, hfz38_6⟩ := cl7 BK143) | ((with_reducible refine gate_callee (f := 71) rfl ?_); refine gsl (some 5) rfl Try.func71 #[.int .i64 a0_1, .int .i64 0, .int .i64 7] rfl ?_; (with_reducible refine (spec_l1In.calls a0_1 0 7 true _ A2.out).mono ?_); rintro e w' ⟨rfl, ⟨nd, rfl⟩⟩; refine ⟨_, rfl, ?_⟩) | ((with_reducible refine gate_callee (f := 71) rfl ?_); refine gsl (some 38) rfl Try.func71 #[.int .i64 a0_2, .int .i64 0, .int .i64 7] rfl ?_; (with_reducible refine (spec_l1In.calls a0_2 0 7 false _ A21.out).mono ?_); rintro e w' ⟨rfl, ⟨nd, rfl⟩⟩; refine ⟨_, rfl, ?_⟩))
          go_ret
          exact ⟨fe, bp HB.out⟩
      · rw [if_neg c20] at H
        have c20b0 : (a0_0 == 2) = false := beq_eq_false_iff_ne.mpr c20
        have c20b1 : (a0_0 != 2) = true := bne_iff_ne.mpr c20
        by_cases c39 : a0_0 = 3
        · rw [if_pos c39] at H
          have c39b0 : (a0_0 == 3) = true := beq_iff_eq.mpr c39
          have c39b1 : (a0_0 != 3) = false := bne_eq_false_iff_eq.mpr c39
          clear c39
          replace H := Option.bind_eq_some_iff.mp H
          obtain ⟨t147, A400, H⟩ := H
          replace H : (if t147 = true then ((spec_l1In.f a0_5 0 4).bind fun t148 => (if t148 = true then (if a0_4 = a0_5 then (some false) else ((spec_l1In.f a0_6 0 1).bind fun t149 => (if t149 = true then (if a0_2 = 0 then (some (a0_3.toList == ([] : List UInt8))) else (some false)) else (some false)))) else (some false))) else (some false)) = some r := H
          have A40 := Aside0.mk A400
          clear A400
          by_cases c41 : t147 = true
          · subst c41
            have H1 : ((spec_l1In.f a0_5 0 4).bind fun t148 => (if t148 = true then (if a0_4 = a0_5 then (some false) else ((spec_l1In.f a0_6 0 1).bind fun t149 => (if t149 = true then (if a0_2 = 0 then (some (a0_3.toList == ([] : List UInt8))) else (some false)) else (some false)))) else (some false))) = some r := by rw [if_pos rfl] at H; exact H
            clear H
            have H := H1
            clear H1
            replace H := Option.bind_eq_some_iff.mp H
            obtain ⟨t148, A420, H⟩ := H
            replace H : (if t148 = true then (if a0_4 = a0_5 then (some false) else ((spec_l1In.f a0_6 0 1).bind fun t149 => (if t149 = true then (if a0_2 = 0 then (some (a0_3.toList == ([] : List UInt8))) else (some false)) else (some false)))) else (some false)) = some r := H
            have A42 := Aside0.mk A420
            clear A420
            by_cases c43 : t148 = true
            · subst c43
              have H1 : (if a0_4 = a0_5 then (some false) else ((spec_l1In.f a0_6 0 1).bind fun t149 => (if t149 = true then (if a0_2 = 0 then (some (a0_3.toList == ([] : List UInt8))) else (some false)) else (some false)))) = some r := by rw [if_pos rfl] at H; exact H
              clear H
              have H := H1
              clear H1
              by_cases c44 : a0_4 = a0_5
              · rw [if_pos c44] at H
                have c44b0 : (a0_4 == a0_5) = true := beq_iff_eq.mpr c44
                have c44b1 : (a0_4 != a0_5) = false := bne_eq_false_iff_eq.mpr c44
                clear c44
                obtain rfl := Option.some.inj H
                go_enter Try.func135, Try.ntmps135
                go_wp2_with (first | ((with_reducible refine gate_dst (N := 1) rfl ?_); refine bxe (N := 1) (cs := #[.int .i64 a0_0, .int .i64 a0_1, .int .i64 a0_2, .string a0_3, .int .i64 a0_4, .int .i64 a0_5, .int .i64 a0_6]) (t := 64) ?_; intro gb143 hg w45 hbox hb; have BK143 := Aside0.mk (hbox); have GW143 := an2 HB hg; have GE143 := an2 HB hg; replace HB := an0 HB hb; clear hb hbox hg; obtain ⟨hcz46_0, hcz46_1, hcz46_2, hcz46_3, hcz46_4, hcz46_5, hcz46_6, hfz46_0, hfz46_1, hfz46_2, hfz46_3, hfz46_4, hfz46_5, hfz46_6⟩ := cl7 BK143) | ((with_reducible refine gate_callee (f := 71) rfl ?_); refine gsl (some 5) rfl Try.func71 #[.int .i64 a0_1, .int .i64 0, .int .i64 7] rfl ?_; (with_reducible refine (spec_l1In.calls a0_1 0 7 true _ A2.out).mono ?_); rintro e w' ⟨rfl, ⟨nd, rfl⟩⟩; refine ⟨_, rfl, ?_⟩) | ((with_reducible refine gate_callee (f := 71) rfl ?_); refine gsl (some 70) rfl Try.func71 #[.int .i64 a0_4, .int .i64 0, .int .i64 4] rfl ?_; (with_reducible refine (spec_l1In.calls a0_4 0 4 true _ A40.out).mono ?_); rintro e w' ⟨rfl, ⟨nd, rfl⟩⟩; refine ⟨_, rfl, ?_⟩) | (go_at_call 71; (with_reducible refine (spec_l1In.calls a0_5 0 4 true _ A42.out).mono ?_); rintro e w' ⟨rfl, ⟨nd, rfl⟩⟩))
                go_ret
                exact ⟨fe, bp HB.out⟩
              · rw [if_neg c44] at H
                have c44b0 : (a0_4 == a0_5) = false := beq_eq_false_iff_ne.mpr c44
                have c44b1 : (a0_4 != a0_5) = true := bne_iff_ne.mpr c44
                replace H := Option.bind_eq_some_iff.mp H
                obtain ⟨t149, A470, H⟩ := H
                replace H : (if t149 = true then (if a0_2 = 0 then (some (a0_3.toList == ([] : List UInt8))) else (some false)) else (some false)) = some r := H
                have A47 := Aside0.mk A470
                clear A470
                by_cases c48 : t149 = true
                · subst c48
                  have H1 : (if a0_2 = 0 then (some (a0_3.toList == ([] : List UInt8))) else (some false)) = some r := by rw [if_pos rfl] at H; exact H
                  clear H
                  have H := H1
                  clear H1
                  by_cases c49 : a0_2 = 0
                  · rw [if_pos c49] at H
                    have c49b0 : (a0_2 == 0) = true := beq_iff_eq.mpr c49
                    have c49b1 : (a0_2 != 0) = false := bne_eq_false_iff_eq.mpr c49
                    clear c49
                    obtain rfl := Option.some.inj H
                    go_enter Try.func135, Try.ntmps135
                    go_wp2_with (first | ((with_reducible refine gate_dst (N := 1) rfl ?_); refine bxe (N := 1) (cs := #[.int .i64 a0_0, .int .i64 a0_1, .int .i64 a0_2, .string a0_3, .int .i64 a0_4, .int .i64 a0_5, .int .i64 a0_6]) (t := 64) ?_; intro gb143 hg w50 hbox hb; have BK143 := Aside0.mk (hbox); have GW143 := an2 HB hg; have GE143 := an2 HB hg; replace HB := an0 HB hb; clear hb hbox hg; obtain ⟨hcz51_0, hcz51_1, hcz51_2, hcz51_3, hcz51_4, hcz51_5, hcz51_6, hfz51_0, hfz51_1, hfz51_2, hfz51_3, hfz51_4, hfz51_5, hfz51_6⟩ := cl7 BK143) | ((with_reducible refine gate_callee (f := 71) rfl ?_); refine gsl (some 5) rfl Try.func71 #[.int .i64 a0_1, .int .i64 0, .int .i64 7] rfl ?_; (with_reducible refine (spec_l1In.calls a0_1 0 7 true _ A2.out).mono ?_); rintro e w' ⟨rfl, ⟨nd, rfl⟩⟩; refine ⟨_, rfl, ?_⟩) | ((with_reducible refine gate_callee (f := 71) rfl ?_); refine gsl (some 70) rfl Try.func71 #[.int .i64 a0_4, .int .i64 0, .int .i64 4] rfl ?_; (with_reducible refine (spec_l1In.calls a0_4 0 4 true _ A40.out).mono ?_); rintro e w' ⟨rfl, ⟨nd, rfl⟩⟩; refine ⟨_, rfl, ?_⟩) | (go_at_call 71; (with_reducible refine (spec_l1In.calls a0_5 0 4 true _ A42.out).mono ?_); rintro e w' ⟨rfl, ⟨nd, rfl⟩⟩) | (go_at_call 71; (with_reducible refine (spec_l1In.calls a0_6 0 1 true _ A47.out).mono ?_); rintro e w' ⟨rfl, ⟨nd, rfl⟩⟩))
                    go_ret
                    exact ⟨fe, bp HB.out⟩
                  · rw [if_neg c49] at H
                    have c49b0 : (a0_2 == 0) = false := beq_eq_false_iff_ne.mpr c49
                    have c49b1 : (a0_2 != 0) = true := bne_iff_ne.mpr c49
                    obtain rfl := Option.some.inj H
                    go_enter Try.func135, Try.ntmps135
                    go_wp2_with (first | ((with_reducible refine gate_dst (N := 1) rfl ?_); refine bxe (N := 1) (cs := #[.int .i64 a0_0, .int .i64 a0_1, .int .i64 a0_2, .string a0_3, .int .i64 a0_4, .int .i64 a0_5, .int .i64 a0_6]) (t := 64) ?_; intro gb143 hg w52 hbox hb; have BK143 := Aside0.mk (hbox); have GW143 := an2 HB hg; have GE143 := an2 HB hg; replace HB := an0 HB hb; clear hb hbox hg; obtain ⟨hcz53_0, hcz53_1, hcz53_2, hcz53_3, hcz53_4, hcz53_5, hcz53_6, hfz53_0, hfz53_1, hfz53_2, hfz53_3, hfz53_4, hfz53_5, hfz53_6⟩ := cl7 BK143) | ((with_reducible refine gate_callee (f := 71) rfl ?_); refine gsl (some 5) rfl Try.func71 #[.int .i64 a0_1, .int .i64 0, .int .i64 7] rfl ?_; (with_reducible refine (spec_l1In.calls a0_1 0 7 true _ A2.out).mono ?_); rintro e w' ⟨rfl, ⟨nd, rfl⟩⟩; refine ⟨_, rfl, ?_⟩) | ((with_reducible refine gate_callee (f := 71) rfl ?_); refine gsl (some 70) rfl Try.func71 #[.int .i64 a0_4, .int .i64 0, .int .i64 4] rfl ?_; (with_reducible refine (spec_l1In.calls a0_4 0 4 true _ A40.out).mono ?_); rintro e w' ⟨rfl, ⟨nd, rfl⟩⟩; refine ⟨_, rfl, ?_⟩) | (go_at_call 71; (with_reducible refine (spec_l1In.calls a0_5 0 4 true _ A42.out).mono ?_); rintro e w' ⟨rfl, ⟨nd, rfl⟩⟩) | (go_at_call 71; (with_reducible refine (spec_l1In.calls a0_6 0 1 true _ A47.out).mono ?_); rintro e w' ⟨rfl, ⟨nd, rfl⟩⟩))
                    go_ret
                    exact ⟨fe, bp HB.out⟩
                · replace c48 := Bool.eq_false_iff.mpr c48
                  subst c48
                  have H1 : (some false) = some r := by rw [if_neg (show ¬ (false = true) by decide)] at H; exact H
                  clear H
                  have H := H1
                  clear H1
                  obtain rfl := Option.some.inj H
                  go_enter Try.func135, Try.ntmps135
                  go_wp2_with (first | ((with_reducible refine gate_dst (N := 1) rfl ?_); refine bxe (N := 1) (cs := #[.int .i64 a0_0, .int .i64 a0_1, .int .i64 a0_2, .string a0_3, .int .i64 a0_4, .int .i64 a0_5, .int .i64 a0_6]) (t := 64) ?_; intro gb143 hg w54 hbox hb; have BK143 := Aside0.mk (hbox); have GW143 := an2 HB hg; have GE143 := an2 HB hg; replace HB := an0 HB hb; clear hb hbox hg; obtain ⟨hcz55_0, hcz55_1, hcz55_2, hcz55_3, hcz55_4, hcz55_5, hcz55_6, hfz55_0, hfz55_1, hfz55_2, hfz55_3, hfz55_4, hfz55_5, hfz55_6⟩ := cl7 BK143) | ((with_reducible refine gate_callee (f := 71) rfl ?_); refine gsl (some 5) rfl Try.func71 #[.int .i64 a0_1, .int .i64 0, .int .i64 7] rfl ?_; (with_reducible refine (spec_l1In.calls a0_1 0 7 true _ A2.out).mono ?_); rintro e w' ⟨rfl, ⟨nd, rfl⟩⟩; refine ⟨_, rfl, ?_⟩) | ((with_reducible refine gate_callee (f := 71) rfl ?_); refine gsl (some 70) rfl Try.func71 #[.int .i64 a0_4, .int .i64 0, .int .i64 4] rfl ?_; (with_reducible refine (spec_l1In.calls a0_4 0 4 true _ A40.out).mono ?_); rintro e w' ⟨rfl, ⟨nd, rfl⟩⟩; refine ⟨_, rfl, ?_⟩) | (go_at_call 71; (with_reducible refine (spec_l1In.calls a0_5 0 4 true _ A42.out).mono ?_); rintro e w' ⟨rfl, ⟨nd, rfl⟩⟩) | (go_at_call 71; (with_reducible refine (spec_l1In.calls a0_6 0 1 false _ A47.out).mono ?_); rintro e w' ⟨rfl, ⟨nd, rfl⟩⟩))
                  go_ret
                  exact ⟨fe, bp HB.out⟩
            · replace c43 := Bool.eq_false_iff.mpr c43
              subst c43
              have H1 : (some false) = some r := by rw [if_neg (show ¬ (false = true) by decide)] at H; exact H
              clear H
              have H := H1
              clear H1
              obtain rfl := Option.some.inj H
              go_enter Try.func135, Try.ntmps135
              go_wp2_with (first | ((with_reducible refine gate_dst (N := 1) rfl ?_); refine bxe (N := 1) (cs := #[.int .i64 a0_0, .int .i64 a0_1, .int .i64 a0_2, .string a0_3, .int .i64 a0_4, .int .i64 a0_5, .int .i64 a0_6]) (t := 64) ?_; intro gb143 hg w56 hbox hb; have BK143 := Aside0.mk (hbox); have GW143 := an2 HB hg; have GE143 := an2 HB hg; replace HB := an0 HB hb; clear hb hbox hg; obtain ⟨hcz57_0, hcz57_1, hcz57_2, hcz57_3, hcz57_4, hcz57_5, hcz57_6, hfz57_0, hfz57_1, hfz57_2, hfz57_3, hfz57_4, hfz57_5, hfz57_6⟩ := cl7 BK143) | ((with_reducible refine gate_callee (f := 71) rfl ?_); refine gsl (some 5) rfl Try.func71 #[.int .i64 a0_1, .int .i64 0, .int .i64 7] rfl ?_; (with_reducible refine (spec_l1In.calls a0_1 0 7 true _ A2.out).mono ?_); rintro e w' ⟨rfl, ⟨nd, rfl⟩⟩; refine ⟨_, rfl, ?_⟩) | ((with_reducible refine gate_callee (f := 71) rfl ?_); refine gsl (some 70) rfl Try.func71 #[.int .i64 a0_4, .int .i64 0, .int .i64 4] rfl ?_; (with_reducible refine (spec_l1In.calls a0_4 0 4 true _ A40.out).mono ?_); rintro e w' ⟨rfl, ⟨nd, rfl⟩⟩; refine ⟨_, rfl, ?_⟩) | (go_at_call 71; (with_reducible refine (spec_l1In.calls a0_5 0 4 false _ A42.out).mono ?_); rintro e w' ⟨rfl, ⟨nd, rfl⟩⟩))
              go_ret
              exact ⟨fe, bp HB.out⟩
          · replace c41 := Bool.eq_false_iff.mpr c41
            subst c41
            have H1 : (some false) = some r := by rw [if_neg (show ¬ (false = true) by decide)] at H; exact H
            clear H
            have H := H1
            clear H1
            obtain rfl := Option.some.inj H
            go_enter Try.func135, Try.ntmps135
            go_wp2_with (first | ((with_reducible refine gate_dst (N := 1) rfl ?_); refine bxe (N := 1) (cs := #[.int .i64 a0_0, .int .i64 a0_1, .int .i64 a0_2, .string a0_3, .int .i64 a0_4, .int .i64 a0_5, .int .i64 a0_6]) (t := 64) ?_; intro gb143 hg w58 hbox hb; have BK143 := Aside0.mk (hbox); have GW143 := an2 HB hg; have GE143 := an2 HB hg; replace HB := an0 HB hb; clear hb hbox hg; obtain ⟨hcz59_0, hcz59_1, hcz59_2, hcz59_3, hcz59_4, hcz59_5, hcz59_6, hfz59_0, hfz59_1, hfz59_2, hfz59_3, hfz59_4, hfz59_5, hfz59_6⟩ := cl7 BK143) | ((with_reducible refine gate_callee (f := 71) rfl ?_); refine gsl (some 5) rfl Try.func71 #[.int .i64 a0_1, .int .i64 0, .int .i64 7] rfl ?_; (with_reducible refine (spec_l1In.calls a0_1 0 7 true _ A2.out).mono ?_); rintro e w' ⟨rfl, ⟨nd, rfl⟩⟩; refine ⟨_, rfl, ?_⟩) | ((with_reducible refine gate_callee (f := 71) rfl ?_); refine gsl (some 70) rfl Try.func71 #[.int .i64 a0_4, .int .i64 0, .int .i64 4] rfl ?_; (with_reducible refine (spec_l1In.calls a0_4 0 4 false _ A40.out).mono ?_); rintro e w' ⟨rfl, ⟨nd, rfl⟩⟩; refine ⟨_, rfl, ?_⟩))
            go_ret
            exact ⟨fe, bp HB.out⟩
        · rw [if_neg c39] at H
          have c39b0 : (a0_0 == 3) = false := beq_eq_false_iff_ne.mpr c39
          have c39b1 : (a0_0 != 3) = true := bne_iff_ne.mpr c39
          obtain rfl := Option.some.inj H
          go_enter Try.func135, Try.ntmps135
          go_wp2_with (first | ((with_reducible refine gate_dst (N := 1) rfl ?_); refine bxe (N := 1) (cs := #[.int .i64 a0_0, .int .i64 a0_1, .int .i64 a0_2, .string a0_3, .int .i64 a0_4, .int .i64 a0_5, .int .i64 a0_6]) (t := 64) ?_; intro gb143 hg w60 hbox hb; have BK143 := Aside0.mk (hbox); have GW143 := an2 HB hg; have GE143 := an2 HB hg; replace HB := an0 HB hb; clear hb hbox hg; obtain ⟨hcz61_0, hcz61_1, hcz61_2, hcz61_3, hcz61_4, hcz61_5, hcz61_6, hfz61_0, hfz61_1, hfz61_2, hfz61_3, hfz61_4, hfz61_5, hfz61_6⟩ := cl7 BK143) | ((with_reducible refine gate_callee (f := 71) rfl ?_); refine gsl (some 5) rfl Try.func71 #[.int .i64 a0_1, .int .i64 0, .int .i64 7] rfl ?_; (with_reducible refine (spec_l1In.calls a0_1 0 7 true _ A2.out).mono ?_); rintro e w' ⟨rfl, ⟨nd, rfl⟩⟩; refine ⟨_, rfl, ?_⟩))
          go_ret
          exact ⟨fe, bp HB.out⟩
  · replace c3 := Bool.eq_false_iff.mpr c3
    subst c3
    have H1 : (some false) = some r := by rw [if_neg (show ¬ (false = true) by decide)] at H; exact H
    clear H
    have H := H1
    clear H1
    obtain rfl := Option.some.inj H
    go_enter Try.func135, Try.ntmps135
    go_wp2_with (first | ((with_reducible refine gate_dst (N := 1) rfl ?_); refine bxe (N := 1) (cs := #[.int .i64 a0_0, .int .i64 a0_1, .int .i64 a0_2, .string a0_3, .int .i64 a0_4, .int .i64 a0_5, .int .i64 a0_6]) (t := 64) ?_; intro gb143 hg w62 hbox hb; have BK143 := Aside0.mk (hbox); have GW143 := an2 HB hg; have GE143 := an2 HB hg; replace HB := an0 HB hb; clear hb hbox hg; obtain ⟨hcz63_0, hcz63_1, hcz63_2, hcz63_3, hcz63_4, hcz63_5, hcz63_6, hfz63_0, hfz63_1, hfz63_2, hfz63_3, hfz63_4, hfz63_5, hfz63_6⟩ := cl7 BK143) | ((with_reducible refine gate_callee (f := 71) rfl ?_); refine gsl (some 5) rfl Try.func71 #[.int .i64 a0_1, .int .i64 0, .int .i64 7] rfl ?_; (with_reducible refine (spec_l1In.calls a0_1 0 7 false _ A2.out).mono ?_); rintro e w' ⟨rfl, ⟨nd, rfl⟩⟩; refine ⟨_, rfl, ?_⟩))
    go_ret
    exact ⟨fe, bp HB.out⟩

/-! ### spec_l27Work: function 93 -/
def spec_l27Work.f (k : Nat) (a0_0 : Int) (a0_1 : Int) (a0_2 : Int) (a0_3 : ByteArray) (a0_4 : Int) (a0_5 : Int) (a0_6 : Int) (a1 : Int) : Option (Bool) := if (a0_0 == 0 && (a0_1 == 0 && (a0_2 == 0 && (a0_3.toList == ([] : List UInt8) && (a0_4 == 0 && (a0_5 == 0 && (a0_6 == 0))))))) = true then (some true) else ((spec_PlanValid.f k a0_0 a0_1 a0_2 a0_3 a0_4 a0_5 a0_6).bind fun t151 => (if t151 = true then (if a0_1 < a1 then (some (decide (a0_2 < a1))) else (some false)) else (some false)))
theorem spec_l27Work.mono : ∀ a0 a1 a2 a3 a4 a5 a6 a7 k, LeO (spec_l27Work.f k a0 a1 a2 a3 a4 a5 a6 a7) (spec_l27Work.f (k + 1) a0 a1 a2 a3 a4 a5 a6 a7) := by
  intro a0 a1 a2 a3 a4 a5 a6 a7 k
  unfold spec_l27Work.f
  repeat' first
      | (with_reducible exact spec_PlanValid.mono _ _ _ _ _ _ _ _)
      | (with_reducible exact LeO.refl _)
      | (with_reducible exact LeO.none _)
      | (with_reducible refine LeO.ite ?_ ?_)
      | (with_reducible refine LeO.bind ?_ (fun _ => ?_))
      | exact spec_PlanValid.mono _ _ _ _ _ _ _ _
      | exact LeO.none _
      | refine LeO.ite ?_ ?_
      | refine LeO.bind ?_ (fun _ => ?_)
set_option maxHeartbeats 8000000 in
set_option maxRecDepth 100000 in
theorem spec_l27Work.calls (k : Nat) (a0_0 : Int) (a0_1 : Int) (a0_2 : Int) (a0_3 : ByteArray) (a0_4 : Int) (a0_5 : Int) (a0_6 : Int) (a1 : Int) (r : Bool) (w : World) (h : spec_l27Work.f k a0_0 a0_1 a0_2 a0_3 a0_4 a0_5 a0_6 a1 = some r) :
    Calls Try.prog 93 #[.agg #[.int .i64 a0_0, .int .i64 a0_1, .int .i64 a0_2, .string a0_3, .int .i64 a0_4, .int .i64 a0_5, .int .i64 a0_6], .int .i64 a1] w fun e w' => e = .returned (.bool r) ∧ Below w.heap.size w w' := by
  have hu64 := Try.underlying64
  have HB := Aside0.mk (Below.refl w.heap.size w)
  have H : (if (a0_0 == 0 && (a0_1 == 0 && (a0_2 == 0 && (a0_3.toList == ([] : List UInt8) && (a0_4 == 0 && (a0_5 == 0 && (a0_6 == 0))))))) = true then (some true) else ((spec_PlanValid.f k a0_0 a0_1 a0_2 a0_3 a0_4 a0_5 a0_6).bind fun t151 => (if t151 = true then (if a0_1 < a1 then (some (decide (a0_2 < a1))) else (some false)) else (some false)))) = some r := h
  clear h
  by_cases c3 : (a0_0 == 0 && (a0_1 == 0 && (a0_2 == 0 && (a0_3.toList == ([] : List UInt8) && (a0_4 == 0 && (a0_5 == 0 && (a0_6 == 0))))))) = true
  · rw [if_pos c3] at H
    have c3b0 : (a0_0 == 0 && (a0_1 == 0 && (a0_2 == 0 && (a0_3.toList == ([] : List UInt8) && (a0_4 == 0 && (a0_5 == 0 && (a0_6 == 0))))))) = true := c3
    (try (have c3b1 : decide (a0_0 = 0 && (a0_1 == 0 && (a0_2 == 0 && (a0_3.toList == ([] : List UInt8) && (a0_4 == 0 && (a0_5 == 0 && (a0_6 == 0))))))) = true := by simpa using c3))
    (try (have c3b2 : (a0_0 == 0 && (a0_1 == 0 && (a0_2 == 0 && (a0_3.toList == ([] : List UInt8) && (a0_4 == 0 && (a0_5 == 0 && (a0_6 == 0))))))) = true := by simpa using c3))
    (try (have c3b3 : (a0_0 == 0 && (a0_1 == 0 && (a0_2 == 0 && (a0_3.toList.isEmpty && (a0_4 == 0 && (a0_5 == 0 && (a0_6 == 0))))))) = true := by simpa using c3))
    clear c3
    obtain rfl := Option.some.inj H
    go_enter Try.func93, Try.ntmps93
    go_wp2_with (first | ((with_reducible refine gate_dst (N := 2) rfl ?_); refine bxe (N := 2) (cs := #[.int .i64 a0_0, .int .i64 a0_1, .int .i64 a0_2, .string a0_3, .int .i64 a0_4, .int .i64 a0_5, .int .i64 a0_6]) (t := 64) ?_; intro gb150 hg w4 hbox hb; have BK150 := Aside0.mk (hbox); have GW150 := an2 HB hg; have GE150 := an2 HB hg; replace HB := an0 HB hb; clear hb hbox hg; obtain ⟨hcz5_0, hcz5_1, hcz5_2, hcz5_3, hcz5_4, hcz5_5, hcz5_6, hfz5_0, hfz5_1, hfz5_2, hfz5_3, hfz5_4, hfz5_5, hfz5_6⟩ := cl7 BK150))
    go_ret
    exact ⟨fe, bp HB.out⟩
  · rw [if_neg c3] at H
    have c3b0 : (a0_0 == 0 && (a0_1 == 0 && (a0_2 == 0 && (a0_3.toList == ([] : List UInt8) && (a0_4 == 0 && (a0_5 == 0 && (a0_6 == 0))))))) = false := by simpa using c3
    (try (have c3b1 : decide (a0_0 = 0 && (a0_1 == 0 && (a0_2 == 0 && (a0_3.toList == ([] : List UInt8) && (a0_4 == 0 && (a0_5 == 0 && (a0_6 == 0))))))) = false := by simpa using c3))
    (try (have c3b2 : (a0_0 == 0 && (a0_1 == 0 && (a0_2 == 0 && (a0_3.toList == ([] : List UInt8) && (a0_4 == 0 && (a0_5 == 0 && (a0_6 == 0))))))) = false := by simpa using c3))
    (try (have c3b3 : ¬ (a0_0 = 0 && (a0_1 == 0 && (a0_2 == 0 && (a0_3.toList == ([] : List UInt8) && (a0_4 == 0 && (a0_5 == 0 && (a0_6 == 0))))))) := by simpa using c3))
    (try (have c3b4 : (a0_0 == 0 && (a0_1 == 0 && (a0_2 == 0 && (a0_3.toList.isEmpty && (a0_4 == 0 && (a0_5 == 0 && (a0_6 == 0))))))) = false := by simpa using c3))
    clear c3
    replace H := Option.bind_eq_some_iff.mp H
    obtain ⟨t151, A60, H⟩ := H
    replace H : (if t151 = true then (if a0_1 < a1 then (some (decide (a0_2 < a1))) else (some false)) else (some false)) = some r := H
    have A6 := Aside0.mk A60
    clear A60
    by_cases c7 : t151 = true
    · subst c7
      have H1 : (if a0_1 < a1 then (some (decide (a0_2 < a1))) else (some false)) = some r := by rw [if_pos rfl] at H; exact H
      clear H
      have H := H1
      clear H1
      by_cases c8 : a0_1 < a1
      · rw [if_pos c8] at H
        have c8b0 : decide (a0_1 < a1) = true := decide_eq_true c8
        clear c8
        obtain rfl := Option.some.inj H
        go_enter Try.func93, Try.ntmps93
        go_wp2_with (first | ((with_reducible refine gate_dst (N := 2) rfl ?_); refine bxe (N := 2) (cs := #[.int .i64 a0_0, .int .i64 a0_1, .int .i64 a0_2, .string a0_3, .int .i64 a0_4, .int .i64 a0_5, .int .i64 a0_6]) (t := 64) ?_; intro gb150 hg w9 hbox hb; have BK150 := Aside0.mk (hbox); have GW150 := an2 HB hg; have GE150 := an2 HB hg; replace HB := an0 HB hb; clear hb hbox hg; obtain ⟨hcz10_0, hcz10_1, hcz10_2, hcz10_3, hcz10_4, hcz10_5, hcz10_6, hfz10_0, hfz10_1, hfz10_2, hfz10_3, hfz10_4, hfz10_5, hfz10_6⟩ := cl7 BK150) | ((with_reducible refine gate_callee (f := 135) rfl ?_); refine gsl (some 9) rfl Try.func135 #[.agg #[.int .i64 a0_0, .int .i64 a0_1, .int .i64 a0_2, .string a0_3, .int .i64 a0_4, .int .i64 a0_5, .int .i64 a0_6]] rfl ?_; (with_reducible refine (spec_PlanValid.calls k a0_0 a0_1 a0_2 a0_3 a0_4 a0_5 a0_6 true _ A6.out).mono ?_); rintro e w11 ⟨rfl, hb⟩; refine ⟨_, rfl, ?_⟩; replace BK150 := an1 BK150 hb; replace HB := an0 HB hb; (try clear hb); (try clear hb2); (try clear hk); (try clear hi); obtain ⟨hcz12_0, hcz12_1, hcz12_2, hcz12_3, hcz12_4, hcz12_5, hcz12_6, hfz12_0, hfz12_1, hfz12_2, hfz12_3, hfz12_4, hfz12_5, hfz12_6⟩ := cl7 BK150))
        go_ret
        exact ⟨fe, bp HB.out⟩
      · rw [if_neg c8] at H
        have c8b0 : decide (a0_1 < a1) = false := decide_eq_false c8
        clear c8
        obtain rfl := Option.some.inj H
        go_enter Try.func93, Try.ntmps93
        go_wp2_with (first | ((with_reducible refine gate_dst (N := 2) rfl ?_); refine bxe (N := 2) (cs := #[.int .i64 a0_0, .int .i64 a0_1, .int .i64 a0_2, .string a0_3, .int .i64 a0_4, .int .i64 a0_5, .int .i64 a0_6]) (t := 64) ?_; intro gb150 hg w13 hbox hb; have BK150 := Aside0.mk (hbox); have GW150 := an2 HB hg; have GE150 := an2 HB hg; replace HB := an0 HB hb; clear hb hbox hg; obtain ⟨hcz14_0, hcz14_1, hcz14_2, hcz14_3, hcz14_4, hcz14_5, hcz14_6, hfz14_0, hfz14_1, hfz14_2, hfz14_3, hfz14_4, hfz14_5, hfz14_6⟩ := cl7 BK150) | ((with_reducible refine gate_callee (f := 135) rfl ?_); refine gsl (some 9) rfl Try.func135 #[.agg #[.int .i64 a0_0, .int .i64 a0_1, .int .i64 a0_2, .string a0_3, .int .i64 a0_4, .int .i64 a0_5, .int .i64 a0_6]] rfl ?_; (with_reducible refine (spec_PlanValid.calls k a0_0 a0_1 a0_2 a0_3 a0_4 a0_5 a0_6 true _ A6.out).mono ?_); rintro e w15 ⟨rfl, hb⟩; refine ⟨_, rfl, ?_⟩; replace BK150 := an1 BK150 hb; replace HB := an0 HB hb; (try clear hb); (try clear hb2); (try clear hk); (try clear hi); obtain ⟨hcz16_0, hcz16_1, hcz16_2, hcz16_3, hcz16_4, hcz16_5, hcz16_6, hfz16_0, hfz16_1, hfz16_2, hfz16_3, hfz16_4, hfz16_5, hfz16_6⟩ := cl7 BK150))
        go_ret
        exact ⟨fe, bp HB.out⟩
    · replace c7 := Bool.eq_false_iff.mpr c7
      subst c7
      have H1 : (some false) = some r := by rw [if_neg (show ¬ (false = true) by decide)] at H; exact H
      clear H
      have H := H1
      clear H1
      obtain rfl := Option.some.inj H
      go_enter Try.func93, Try.ntmps93
      go_wp2_with (first | ((with_reducible refine gate_dst (N := 2) rfl ?_); refine bxe (N := 2) (cs := #[.int .i64 a0_0, .int .i64 a0_1, .int .i64 a0_2, .string a0_3, .int .i64 a0_4, .int .i64 a0_5, .int .i64 a0_6]) (t := 64) ?_; intro gb150 hg w17 hbox hb; have BK150 := Aside0.mk (hbox); have GW150 := an2 HB hg; have GE150 := an2 HB hg; replace HB := an0 HB hb; clear hb hbox hg; obtain ⟨hcz18_0, hcz18_1, hcz18_2, hcz18_3, hcz18_4, hcz18_5, hcz18_6, hfz18_0, hfz18_1, hfz18_2, hfz18_3, hfz18_4, hfz18_5, hfz18_6⟩ := cl7 BK150) | ((with_reducible refine gate_callee (f := 135) rfl ?_); refine gsl (some 9) rfl Try.func135 #[.agg #[.int .i64 a0_0, .int .i64 a0_1, .int .i64 a0_2, .string a0_3, .int .i64 a0_4, .int .i64 a0_5, .int .i64 a0_6]] rfl ?_; (with_reducible refine (spec_PlanValid.calls k a0_0 a0_1 a0_2 a0_3 a0_4 a0_5 a0_6 false _ A6.out).mono ?_); rintro e w19 ⟨rfl, hb⟩; refine ⟨_, rfl, ?_⟩; replace BK150 := an1 BK150 hb; replace HB := an0 HB hb; (try clear hb); (try clear hb2); (try clear hk); (try clear hi)))
      go_ret
      exact ⟨fe, bp HB.out⟩

end Go.Proofs.Ytkejaolfbejokaa.PFnExactMasterValid
