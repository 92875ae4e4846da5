-- Written by a program of this session, in the manner of the kit's print (wip/pp.py): functions and their contracts.
import Derived.Test.YtkejaolfbejokaaPFnExactRealTimex0
import Derived.Test.YtkejaolfbejokaaPFnExactRealTimex1
import Derived.Test.YtkejaolfbejokaaPFnExactRealTimex3
import Derived.Test.YtkejaolfbejokaaPFnExactRealTimex6
namespace Go.Proofs.Ytkejaolfbejokaa.PFnExactRealTime
open Go.RowKit Go.Proofs.YtkejaolfbejokaaW.PrintWords Go.Proofs.YtkejaolfbejokaaW.PrintLast Go.Proofs.YtkejaolfbejokaaW.PrintMore
attribute [local go_sem] binOp_leq_str binOp_gtr_str binOp_geq_str max2_int min2_int max_two min_two max_three min_three max_four min_four   -- for this text's walks alone
set_option linter.unusedVariables false
set_option linter.unusedSimpArgs false

/-! ### laws_eqResultS: function 39 -/
def laws_eqResultS.l0 : Nat → List (S77) → List (S77) → Int → Option (Bool)
  | 0, _, _, _ => none
  | k + 1, x0, x1, x5 => if x5 < (x0.length : Int) then (if 0 ≤ x5 then (if x5 < (x1.length : Int) then ((laws_eqResult.f ((rd_T77 x0 x5).f0) ((rd_T77 x0 x5).f1) ((rd_T77 x0 x5).f2.f0) ((rd_T77 x0 x5).f2.f1) ((rd_T77 x0 x5).f2.f2) ((rd_T77 x0 x5).f2.f3) ((rd_T77 x0 x5).f3) ((rd_T77 x0 x5).f4) ((rd_T77 x0 x5).f5) ((rd_T77 x1 x5).f0) ((rd_T77 x1 x5).f1) ((rd_T77 x1 x5).f2.f0) ((rd_T77 x1 x5).f2.f1) ((rd_T77 x1 x5).f2.f2) ((rd_T77 x1 x5).f2.f3) ((rd_T77 x1 x5).f3) ((rd_T77 x1 x5).f4) ((rd_T77 x1 x5).f5)).bind fun t204 => (if t204 = true then (laws_eqResultS.l0 k x0 x1 (wrap64 (x5 + 1))) else (some false))) else (none)) else (none)) else (some true)
def laws_eqResultS.f (k : Nat) (l0 : List (S77)) (l1 : List (S77)) : Option (Bool) := if (l0.length : Int) = (l1.length : Int) then (laws_eqResultS.l0 k l0 l1 0) else (some false)
theorem laws_eqResultS.mono_l : ∀ k, (∀ y0 y1 y2, LeO (laws_eqResultS.l0 k y0 y1 y2) (laws_eqResultS.l0 (k + 1) y0 y1 y2))
  | 0 => fun _ _ _ r h => by simp [laws_eqResultS.l0] at h
  | k + 1 => by
    have ih0 := laws_eqResultS.mono_l k
    · intro y0 y1 y2
      unfold laws_eqResultS.l0
      repeat' first
      | (with_reducible exact ih0 _ _ _)
      | (with_reducible exact LeO.refl _)
      | (with_reducible exact LeO.none _)
      | (with_reducible refine LeO.ite ?_ ?_)
      | (with_reducible refine LeO.bind ?_ (fun _ => ?_))
      | exact ih0 _ _ _
      | exact LeO.none _
      | refine LeO.ite ?_ ?_
      | refine LeO.bind ?_ (fun _ => ?_)
theorem laws_eqResultS.mono : ∀ a0 a1 k, LeO (laws_eqResultS.f k a0 a1) (laws_eqResultS.f (k + 1) a0 a1) := by
  intro a0 a1 k
  have ih0 := laws_eqResultS.mono_l k
  unfold laws_eqResultS.f
  repeat' first
      | (with_reducible exact ih0 _ _ _)
      | (with_reducible exact LeO.refl _)
      | (with_reducible exact LeO.none _)
      | (with_reducible refine LeO.ite ?_ ?_)
      | (with_reducible refine LeO.bind ?_ (fun _ => ?_))
      | exact ih0 _ _ _
      | exact LeO.none _
      | refine LeO.ite ?_ ?_
      | refine LeO.bind ?_ (fun _ => ?_)
def laws_eqResultS.T6 : Bool × List (List Nat × List Nat) := (true, [([], []), ([], []), ([0, 1], [0, 1]), ([2], [2]), ([], []), ([], []), ([4, 5], [4, 5]), ([6], [6]), ([3, 7], [3, 7]), ([8], [8])])
def laws_eqResultS.B6 : List Nat := [0, 0, 3, 7, 0, 0, 48, 112, 255, 511]
theorem laws_eqResultS.tab6 : rtab .any (opsOf Try.f39 6) = laws_eqResultS.T6 := by kernel_rfl
theorem laws_eqResultS.bits6 : waitsOk laws_eqResultS.T6.2 laws_eqResultS.B6 = true := by kernel_rfl
set_option maxHeartbeats 8000000 in
set_option maxRecDepth 100000 in
theorem laws_eqResultS.calls (k : Nat) (A0 : Option Addr) (c0 : Nat) (l0 : List (S77)) (A1 : Option Addr) (c1 : Nat) (l1 : List (S77)) (r : Bool) (w : World) (hr0 : Kd.C k77 w A0 l0.length l0) (hc0 : l0.length ≤ c0) (hr1 : Kd.C k77 w A1 l1.length l1) (hc1 : l1.length ≤ c1) (h : laws_eqResultS.f k l0 l1 = some r) :
    Calls Try.prog 39 #[.slice A0 l0.length c0, .slice A1 l1.length c1] w fun e w' => e = .returned (.bool r) ∧ Below w.heap.size w w' := by
  have hu77 := Try.underlying77
  have HR0 := Aside0.mk hr0
  have HC0 := Aside0.mk hc0
  clear hr0 hc0
  have HR1 := Aside0.mk hr1
  have HC1 := Aside0.mk hc1
  clear hr1 hc1
  have HB := Aside0.mk (Below.refl w.heap.size w)
  have H : (if (l0.length : Int) = (l1.length : Int) then (laws_eqResultS.l0 k l0 l1 0) else (some false)) = some r := h
  clear h
  by_cases c3 : (l0.length : Int) = (l1.length : Int)
  · rw [if_pos c3] at H
    have c3b0 : ((l0.length : Int) == (l1.length : Int)) = true := beq_iff_eq.mpr c3
    have c3b1 : ((l0.length : Int) != (l1.length : Int)) = false := bne_eq_false_iff_eq.mpr c3
    have c3b2 : (l0.length == l1.length) = true := by first | simpa using c3 | (simp at c3 ⊢; omega)
    clear c3
    have H' := Aside0.mk H
    clear H
    go_enter Try.func39, Try.ntmps39
    go_wp2
    go_loopg [5] k (fun kq v5 w' => ∃ (x5_1 : Int), v5 = .int .i64 x5_1 ∧ Aside0 (laws_eqResultS.l0 kq l0 l1 x5_1 = some r) ∧ Aside0 (kq ≤ k) ∧ Aside0 (Below w.heap.size w w'))
    case atStart => exact ⟨(0), (by first | rfl | (simp; done) | (simp [*]; done) | (simp [bne_nil_, beq_nil_]; done)), H', ⟨Nat.le_refl _⟩, ⟨by repeat (first | (with_reducible first | exact HB.out | apply below_alloc | apply pw_below_drewN | apply below_drew1) | exact HB.out)⟩⟩
    case round =>
      clear H'
      try clear c1
      try clear p2
      try clear c3
      try clear c3b0
      try clear c3b1
      try clear c3b2
      obtain ⟨x5_1, rfl, HA, HK1, HB⟩ := hrel
      cases gk with
      | zero => exact absurd HA.out (by simp [laws_eqResultS.l0])
      | succ k1 =>
        have H := HA.out
        clear HA
        simp only [laws_eqResultS.l0] at H
        by_cases c4 : x5_1 < (l0.length : Int)
        · rw [if_pos c4] at H
          have c4b0 : decide (x5_1 < (l0.length : Int)) = true := decide_eq_true c4
          clear c4
          by_cases c5 : 0 ≤ x5_1
          · rw [if_pos c5] at H
            have c5b0 : decide (0 ≤ x5_1) = true := decide_eq_true c5
            clear c5
            by_cases c6 : x5_1 < (l1.length : Int)
            · rw [if_pos c6] at H
              have c6b0 : decide (x5_1 < (l1.length : Int)) = true := decide_eq_true c6
              clear c6
              replace H := Option.bind_eq_some_iff.mp H
              obtain ⟨t204, A70, H⟩ := H
              replace H : (if t204 = true then (laws_eqResultS.l0 k1 l0 l1 (wrap64 (x5_1 + 1))) else (some false)) = some r := H
              have A7 := Aside0.mk A70
              clear A70
              by_cases c8 : t204 = true
              · subst c8
                have H1 : (laws_eqResultS.l0 k1 l0 l1 (wrap64 (x5_1 + 1))) = some r := by rw [if_pos rfl] at H; exact H
                clear H
                have H := H1
                clear H1
                have H' := Aside0.mk H
                clear H
                try go_wp2
                have n0_ := Aside0.mk (below_drew1 HB.out)
                clear HB
                have HB := n0_
                clear n0_
                have p202 : 0 ≤ (x5_1 : Int) := of_decide_eq_true (by first | (with_reducible assumption) | assumption)
                have q202 : x5_1 < (l0.length : Int) := of_decide_eq_true (by first | (with_reducible assumption) | assumption)
                obtain ⟨ad202, e202, hx202_0, hx202_1, hx202_2, hx202_3, hx202_4, hx202_5, hx202_6, hx202_7, hx202_8⟩ := at_T77 HR0.out x5_1 p202 q202
                have hw202_8 := hx202_8
                have hw202_7 := hx202_7
                have hw202_6 := hx202_6
                have hw202_5 := hx202_5
                have hw202_4 := hx202_4
                have hw202_3 := hx202_3
                have hw202_2 := hx202_2
                have hw202_1 := hx202_1
                have hw202_0 := hx202_0
                cases e202
                replace hx202_0 := (HB.out.cell (World.block_lt_of_cell? w _ hx202_0)).trans hx202_0
                replace hx202_1 := (HB.out.cell (World.block_lt_of_cell? w _ hx202_1)).trans hx202_1
                replace hx202_2 := (HB.out.cell (World.block_lt_of_cell? w _ hx202_2)).trans hx202_2
                replace hx202_3 := (HB.out.cell (World.block_lt_of_cell? w _ hx202_3)).trans hx202_3
                replace hx202_4 := (HB.out.cell (World.block_lt_of_cell? w _ hx202_4)).trans hx202_4
                replace hx202_5 := (HB.out.cell (World.block_lt_of_cell? w _ hx202_5)).trans hx202_5
                replace hx202_6 := (HB.out.cell (World.block_lt_of_cell? w _ hx202_6)).trans hx202_6
                replace hx202_7 := (HB.out.cell (World.block_lt_of_cell? w _ hx202_7)).trans hx202_7
                replace hx202_8 := (HB.out.cell (World.block_lt_of_cell? w _ hx202_8)).trans hx202_8
                replace p202 := eq_true p202
                replace q202 := eq_true q202
                have p203 : 0 ≤ (x5_1 : Int) := of_decide_eq_true (by first | (with_reducible assumption) | assumption)
                have q203 : x5_1 < (l1.length : Int) := of_decide_eq_true (by first | (with_reducible assumption) | assumption)
                obtain ⟨ad203, e203, hx203_0, hx203_1, hx203_2, hx203_3, hx203_4, hx203_5, hx203_6, hx203_7, hx203_8⟩ := at_T77 HR1.out x5_1 p203 q203
                have hw203_8 := hx203_8
                have hw203_7 := hx203_7
                have hw203_6 := hx203_6
                have hw203_5 := hx203_5
                have hw203_4 := hx203_4
                have hw203_3 := hx203_3
                have hw203_2 := hx203_2
                have hw203_1 := hx203_1
                have hw203_0 := hx203_0
                cases e203
                replace hx203_0 := (HB.out.cell (World.block_lt_of_cell? w _ hx203_0)).trans hx203_0
                replace hx203_1 := (HB.out.cell (World.block_lt_of_cell? w _ hx203_1)).trans hx203_1
                replace hx203_2 := (HB.out.cell (World.block_lt_of_cell? w _ hx203_2)).trans hx203_2
                replace hx203_3 := (HB.out.cell (World.block_lt_of_cell? w _ hx203_3)).trans hx203_3
                replace hx203_4 := (HB.out.cell (World.block_lt_of_cell? w _ hx203_4)).trans hx203_4
                replace hx203_5 := (HB.out.cell (World.block_lt_of_cell? w _ hx203_5)).trans hx203_5
                replace hx203_6 := (HB.out.cell (World.block_lt_of_cell? w _ hx203_6)).trans hx203_6
                replace hx203_7 := (HB.out.cell (World.block_lt_of_cell? w _ hx203_7)).trans hx203_7
                replace hx203_8 := (HB.out.cell (World.block_lt_of_cell? w _ hx203_8)).trans hx203_8
                replace p203 := eq_true p203
                replace q203 := eq_true q203
                refine start_ (n := 10) (S := fun w' => w'.cell? (ad202.add ((x5_1).toNat * 9)) = some (.int .i64 ((rd_T77 l0 x5_1).f0)) ∧ w'.cell? ⟨(ad202.add ((x5_1).toNat * 9)).block, (ad202.add ((x5_1).toNat * 9)).off + 1, none⟩ = some (.int .i64 ((rd_T77 l0 x5_1).f1)) ∧ w'.cell? ⟨(ad202.add ((x5_1).toNat * 9)).block, (ad202.add ((x5_1).toNat * 9)).off + 2, none⟩ = some (.int .i64 ((rd_T77 l0 x5_1).f2.f0)) ∧ w'.cell? ⟨(ad202.add ((x5_1).toNat * 9)).block, (ad202.add ((x5_1).toNat * 9)).off + 3, none⟩ = some (.string ((rd_T77 l0 x5_1).f2.f1)) ∧ w'.cell? ⟨(ad202.add ((x5_1).toNat * 9)).block, (ad202.add ((x5_1).toNat * 9)).off + 4, none⟩ = some (.int .i64 ((rd_T77 l0 x5_1).f2.f2)) ∧ w'.cell? ⟨(ad202.add ((x5_1).toNat * 9)).block, (ad202.add ((x5_1).toNat * 9)).off + 5, none⟩ = some (.int .i64 ((rd_T77 l0 x5_1).f2.f3)) ∧ w'.cell? ⟨(ad202.add ((x5_1).toNat * 9)).block, (ad202.add ((x5_1).toNat * 9)).off + 6, none⟩ = some (.int .i64 ((rd_T77 l0 x5_1).f3)) ∧ w'.cell? ⟨(ad202.add ((x5_1).toNat * 9)).block, (ad202.add ((x5_1).toNat * 9)).off + 7, none⟩ = some (.int .i64 ((rd_T77 l0 x5_1).f4)) ∧ w'.cell? ⟨(ad202.add ((x5_1).toNat * 9)).block, (ad202.add ((x5_1).toNat * 9)).off + 8, none⟩ = some (.int .i64 ((rd_T77 l0 x5_1).f5)) ∧ w'.cell? (ad203.add ((x5_1).toNat * 9)) = some (.int .i64 ((rd_T77 l1 x5_1).f0)) ∧ w'.cell? ⟨(ad203.add ((x5_1).toNat * 9)).block, (ad203.add ((x5_1).toNat * 9)).off + 1, none⟩ = some (.int .i64 ((rd_T77 l1 x5_1).f1)) ∧ w'.cell? ⟨(ad203.add ((x5_1).toNat * 9)).block, (ad203.add ((x5_1).toNat * 9)).off + 2, none⟩ = some (.int .i64 ((rd_T77 l1 x5_1).f2.f0)) ∧ w'.cell? ⟨(ad203.add ((x5_1).toNat * 9)).block, (ad203.add ((x5_1).toNat * 9)).off + 3, none⟩ = some (.string ((rd_T77 l1 x5_1).f2.f1)) ∧ w'.cell? ⟨(ad203.add ((x5_1).toNat * 9)).block, (ad203.add ((x5_1).toNat * 9)).off + 4, none⟩ = some (.int .i64 ((rd_T77 l1 x5_1).f2.f2)) ∧ w'.cell? ⟨(ad203.add ((x5_1).toNat * 9)).block, (ad203.add ((x5_1).toNat * 9)).off + 5, none⟩ = some (.int .i64 ((rd_T77 l1 x5_1).f2.f3)) ∧ w'.cell? ⟨(ad203.add ((x5_1).toNat * 9)).block, (ad203.add ((x5_1).toNat * 9)).off + 6, none⟩ = some (.int .i64 ((rd_T77 l1 x5_1).f3)) ∧ w'.cell? ⟨(ad203.add ((x5_1).toNat * 9)).block, (ad203.add ((x5_1).toNat * 9)).off + 7, none⟩ = some (.int .i64 ((rd_T77 l1 x5_1).f4)) ∧ w'.cell? ⟨(ad203.add ((x5_1).toNat * 9)).block, (ad203.add ((x5_1).toNat * 9)).off + 8, none⟩ = some (.int .i64 ((rd_T77 l1 x5_1).f5))) (ds := []) #[false, false, false, false, false, false, false, false, false, false] (by kernel_rfl) rfl rfl ⟨((HB.out.cell (World.block_lt_of_cell? w _ hw202_0)).trans hw202_0), ((HB.out.cell (World.block_lt_of_cell? w _ hw202_1)).trans hw202_1), ((HB.out.cell (World.block_lt_of_cell? w _ hw202_2)).trans hw202_2), ((HB.out.cell (World.block_lt_of_cell? w _ hw202_3)).trans hw202_3), ((HB.out.cell (World.block_lt_of_cell? w _ hw202_4)).trans hw202_4), ((HB.out.cell (World.block_lt_of_cell? w _ hw202_5)).trans hw202_5), ((HB.out.cell (World.block_lt_of_cell? w _ hw202_6)).trans hw202_6), ((HB.out.cell (World.block_lt_of_cell? w _ hw202_7)).trans hw202_7), ((HB.out.cell (World.block_lt_of_cell? w _ hw202_8)).trans hw202_8), ((HB.out.cell (World.block_lt_of_cell? w _ hw203_0)).trans hw203_0), ((HB.out.cell (World.block_lt_of_cell? w _ hw203_1)).trans hw203_1), ((HB.out.cell (World.block_lt_of_cell? w _ hw203_2)).trans hw203_2), ((HB.out.cell (World.block_lt_of_cell? w _ hw203_3)).trans hw203_3), ((HB.out.cell (World.block_lt_of_cell? w _ hw203_4)).trans hw203_4), ((HB.out.cell (World.block_lt_of_cell? w _ hw203_5)).trans hw203_5), ((HB.out.cell (World.block_lt_of_cell? w _ hw203_6)).trans hw203_6), ((HB.out.cell (World.block_lt_of_cell? w _ hw203_7)).trans hw203_7), ((HB.out.cell (World.block_lt_of_cell? w _ hw203_8)).trans hw203_8)⟩ (fun hHeld => ?_); refine with_tabW laws_eqResultS.tab6 laws_eqResultS.bits6 (fun HT_ HW_ => ?_)
                generalize wr.drew = w9 at HB hx202_0 hx202_1 hx202_2 hx202_3 hx202_4 hx202_5 hx202_6 hx202_7 hx202_8 hx203_0 hx203_1 hx203_2 hx203_3 hx203_4 hx203_5 hx203_6 hx203_7 hx203_8 hHeld ⊢
                refine pure_ (i := 0) (N := some 17) (v := ?_) (a' := ?_) #[true, false, false, false, false, false, false, false, false, false] rfl rfl (any_of HT_.out (by kernel_rfl)) (fun _ _ _ h => h) (Or.inl ⟨by rfl, ?_⟩) ?_ ?_
                rotate_left
                · intro w'
                  go_simp
                  with_reducible rfl
                rotate_left
                · simp only [Act.put, List.setIfInBounds_toArray, List.set_cons_zero, List.set_cons_succ, i64_w, i32_w]
                  rfl
                refine pure_ (i := 1) (N := some 18) (v := ?_) (a' := ?_) #[true, true, false, false, false, false, false, false, false, false] rfl rfl (any_of HT_.out (by kernel_rfl)) (fun _ _ _ h => h) (Or.inl ⟨by rfl, ?_⟩) ?_ ?_
                rotate_left
                · intro w'
                  go_simp
                  with_reducible rfl
                rotate_left
                · simp only [Act.put, List.setIfInBounds_toArray, List.set_cons_zero, List.set_cons_succ, i64_w, i32_w]
                  rfl
                refine pure_ (i := 2) (N := some 19) (v := ?_) (a' := ?_) #[true, true, true, false, false, false, false, false, false, false] rfl rfl (any_of HT_.out (by kernel_rfl)) (fun _ _ _ h => h) (Or.inl ⟨by rfl, ?_⟩) ?_ ?_
                rotate_left
                · intro w'
                  go_simp
                  with_reducible rfl
                rotate_left
                · simp only [Act.put, List.setIfInBounds_toArray, List.set_cons_zero, List.set_cons_succ, i64_w, i32_w]
                  rfl
                refine pure_ (i := 4) (N := some 21) (v := ?_) (a' := ?_) #[true, true, true, false, true, false, false, false, false, false] rfl rfl (any_of HT_.out (by kernel_rfl)) (fun _ _ _ h => h) (Or.inl ⟨by rfl, ?_⟩) ?_ ?_
                rotate_left
                · intro w'
                  go_simp
                  with_reducible rfl
                rotate_left
                · simp only [Act.put, List.setIfInBounds_toArray, List.set_cons_zero, List.set_cons_succ, i64_w, i32_w]
                  rfl
                refine pure_ (i := 5) (N := some 22) (v := ?_) (a' := ?_) #[true, true, true, false, true, true, false, false, false, false] rfl rfl (any_of HT_.out (by kernel_rfl)) (fun _ _ _ h => h) (Or.inl ⟨by rfl, ?_⟩) ?_ ?_
                rotate_left
                · intro w'
                  go_simp
                  with_reducible rfl
                rotate_left
                · simp only [Act.put, List.setIfInBounds_toArray, List.set_cons_zero, List.set_cons_succ, i64_w, i32_w]
                  rfl
                refine pure_ (i := 6) (N := some 23) (v := ?_) (a' := ?_) #[true, true, true, false, true, true, true, false, false, false] rfl rfl (any_of HT_.out (by kernel_rfl)) (fun _ _ _ h => h) (Or.inl ⟨by rfl, ?_⟩) ?_ ?_
                rotate_left
                · intro w'
                  go_simp
                  with_reducible rfl
                rotate_left
                · simp only [Act.put, List.setIfInBounds_toArray, List.set_cons_zero, List.set_cons_succ, i64_w, i32_w]
                  rfl
                refine take_ (i := 3) (N := some 20) (v := ?_) (a' := ?_) #[true, true, true, true, true, true, true, false, false, false] rfl rfl (take_ofW HT_.out HW_.out (by kernel_rfl)) (fun _ _ _ h => h) (Or.inl ⟨by rfl, ?_⟩) hHeld ?_ ?_
                rotate_left
                · rintro w' ⟨s0, s1, s2, s3, s4, s5, s6, s7, s8, s9, s10, s11, s12, s13, s14, s15, s16, s17⟩
                  go_simp
                  with_reducible rfl
                rotate_left
                · simp only [Act.put, List.setIfInBounds_toArray, List.set_cons_zero, List.set_cons_succ, i64_w, i32_w]
                  rfl
                refine take_ (i := 7) (N := some 24) (v := ?_) (a' := ?_) #[true, true, true, true, true, true, true, true, false, false] rfl rfl (take_ofW HT_.out HW_.out (by kernel_rfl)) (fun _ _ _ h => h) (Or.inl ⟨by rfl, ?_⟩) hHeld ?_ ?_
                rotate_left
                · rintro w' ⟨s0, s1, s2, s3, s4, s5, s6, s7, s8, s9, s10, s11, s12, s13, s14, s15, s16, s17⟩
                  go_simp
                  with_reducible rfl
                rotate_left
                · simp only [Act.put, List.setIfInBounds_toArray, List.set_cons_zero, List.set_cons_succ, i64_w, i32_w]
                  rfl
                refine one_ (i := 8) (N := some 25) #[true, true, true, true, true, true, true, true, true, false] rfl rfl (one_of HT_.out (by kernel_rfl)) (by decide) (fun K hK => ?_)
                refine goes_ Try.func89 (by kernel_rfl) rfl #[.agg #[.int .i64 ((rd_T77 l0 x5_1).f0), .int .i64 ((rd_T77 l0 x5_1).f1), .int .i64 ((rd_T77 l0 x5_1).f2.f0), .string ((rd_T77 l0 x5_1).f2.f1), .int .i64 ((rd_T77 l0 x5_1).f2.f2), .int .i64 ((rd_T77 l0 x5_1).f2.f3), .int .i64 ((rd_T77 l0 x5_1).f3), .int .i64 ((rd_T77 l0 x5_1).f4), .int .i64 ((rd_T77 l0 x5_1).f5)], .agg #[.int .i64 ((rd_T77 l1 x5_1).f0), .int .i64 ((rd_T77 l1 x5_1).f1), .int .i64 ((rd_T77 l1 x5_1).f2.f0), .string ((rd_T77 l1 x5_1).f2.f1), .int .i64 ((rd_T77 l1 x5_1).f2.f2), .int .i64 ((rd_T77 l1 x5_1).f2.f3), .int .i64 ((rd_T77 l1 x5_1).f3), .int .i64 ((rd_T77 l1 x5_1).f4), .int .i64 ((rd_T77 l1 x5_1).f5)]] (by rfl) rfl rfl (by (try simp only [List.map_toArray, List.map_cons, List.map_nil]); first | done | rfl | (simp only [List.length_drop, List.length_take]; rfl)) ?_
                with_reducible refine (laws_eqResult.calls ((rd_T77 l0 x5_1).f0) ((rd_T77 l0 x5_1).f1) ((rd_T77 l0 x5_1).f2.f0) ((rd_T77 l0 x5_1).f2.f1) ((rd_T77 l0 x5_1).f2.f2) ((rd_T77 l0 x5_1).f2.f3) ((rd_T77 l0 x5_1).f3) ((rd_T77 l0 x5_1).f4) ((rd_T77 l0 x5_1).f5) ((rd_T77 l1 x5_1).f0) ((rd_T77 l1 x5_1).f1) ((rd_T77 l1 x5_1).f2.f0) ((rd_T77 l1 x5_1).f2.f1) ((rd_T77 l1 x5_1).f2.f2) ((rd_T77 l1 x5_1).f2.f3) ((rd_T77 l1 x5_1).f3) ((rd_T77 l1 x5_1).f4) ((rd_T77 l1 x5_1).f5) true _ A7.out).mono ?_
                rintro e w10 ⟨rfl, hb⟩
                refine ⟨_, rfl, ?_⟩
                have n0_ := Aside0.mk (below_step (by repeat (first | (with_reducible first | exact HB.out | apply below_alloc | apply pw_below_drewN | apply below_drew1) | exact HB.out)) hb)
                clear HB
                have HB := n0_
                clear n0_
                (try clear hb)
                (try clear hb2)
                (try clear hk)
                (try clear hi)
                refine hK.out _ _ ⟨((HB.out.cell (World.block_lt_of_cell? w _ hw202_0)).trans hw202_0), ((HB.out.cell (World.block_lt_of_cell? w _ hw202_1)).trans hw202_1), ((HB.out.cell (World.block_lt_of_cell? w _ hw202_2)).trans hw202_2), ((HB.out.cell (World.block_lt_of_cell? w _ hw202_3)).trans hw202_3), ((HB.out.cell (World.block_lt_of_cell? w _ hw202_4)).trans hw202_4), ((HB.out.cell (World.block_lt_of_cell? w _ hw202_5)).trans hw202_5), ((HB.out.cell (World.block_lt_of_cell? w _ hw202_6)).trans hw202_6), ((HB.out.cell (World.block_lt_of_cell? w _ hw202_7)).trans hw202_7), ((HB.out.cell (World.block_lt_of_cell? w _ hw202_8)).trans hw202_8), ((HB.out.cell (World.block_lt_of_cell? w _ hw203_0)).trans hw203_0), ((HB.out.cell (World.block_lt_of_cell? w _ hw203_1)).trans hw203_1), ((HB.out.cell (World.block_lt_of_cell? w _ hw203_2)).trans hw203_2), ((HB.out.cell (World.block_lt_of_cell? w _ hw203_3)).trans hw203_3), ((HB.out.cell (World.block_lt_of_cell? w _ hw203_4)).trans hw203_4), ((HB.out.cell (World.block_lt_of_cell? w _ hw203_5)).trans hw203_5), ((HB.out.cell (World.block_lt_of_cell? w _ hw203_6)).trans hw203_6), ((HB.out.cell (World.block_lt_of_cell? w _ hw203_7)).trans hw203_7), ((HB.out.cell (World.block_lt_of_cell? w _ hw203_8)).trans hw203_8)⟩ (fun hHeld => ?_)
                clear hK K
                refine norm_ (a' := ?_) ?_ ?_
                rotate_left
                · show Act.put _ (some 25) _ = _
                  simp only [Act.put, List.setIfInBounds_toArray, List.set_cons_zero, List.set_cons_succ, i64_w, i32_w]
                  rfl
                refine pure_ (i := 9) (N := some 26) (v := ?_) (a' := ?_) #[true, true, true, true, true, true, true, true, true, true] rfl rfl (any_of HT_.out (by kernel_rfl)) (fun _ _ _ h => h) (Or.inl ⟨by rfl, ?_⟩) ?_ ?_
                rotate_left
                · intro w'
                  go_simp
                  with_reducible rfl
                rotate_left
                · simp only [Act.put, List.setIfInBounds_toArray, List.set_cons_zero, List.set_cons_succ, i64_w, i32_w]
                  rfl
                refine done_ (done_of HT_.out (by kernel_rfl)) ?_
                try go_wp2
                go_roundg k1
                case measure => have := HK1.out; omega
                case rel => exact ⟨(wrap64 (x5_1 + 1)), (by first | rfl | (simp; done) | (simp [*]; done) | (simp [bne_nil_, beq_nil_]; done)), H', ⟨by have := HK1.out; omega⟩, ⟨by repeat (first | (with_reducible first | exact HB.out | apply below_alloc | apply pw_below_drewN | apply below_drew1) | exact HB.out)⟩⟩
              · replace c8 := Bool.eq_false_iff.mpr c8
                subst c8
                have H1 : (some false) = some r := by rw [if_neg (show ¬ (false = true) by decide)] at H; exact H
                clear H
                have H := H1
                clear H1
                obtain rfl := Option.some.inj H
                try go_wp2
                have n0_ := Aside0.mk (below_drew1 HB.out)
                clear HB
                have HB := n0_
                clear n0_
                have p202 : 0 ≤ (x5_1 : Int) := of_decide_eq_true (by first | (with_reducible assumption) | assumption)
                have q202 : x5_1 < (l0.length : Int) := of_decide_eq_true (by first | (with_reducible assumption) | assumption)
                obtain ⟨ad202, e202, hx202_0, hx202_1, hx202_2, hx202_3, hx202_4, hx202_5, hx202_6, hx202_7, hx202_8⟩ := at_T77 HR0.out x5_1 p202 q202
                have hw202_8 := hx202_8
                have hw202_7 := hx202_7
                have hw202_6 := hx202_6
                have hw202_5 := hx202_5
                have hw202_4 := hx202_4
                have hw202_3 := hx202_3
                have hw202_2 := hx202_2
                have hw202_1 := hx202_1
                have hw202_0 := hx202_0
                cases e202
                replace hx202_0 := (HB.out.cell (World.block_lt_of_cell? w _ hx202_0)).trans hx202_0
                replace hx202_1 := (HB.out.cell (World.block_lt_of_cell? w _ hx202_1)).trans hx202_1
                replace hx202_2 := (HB.out.cell (World.block_lt_of_cell? w _ hx202_2)).trans hx202_2
                replace hx202_3 := (HB.out.cell (World.block_lt_of_cell? w _ hx202_3)).trans hx202_3
                replace hx202_4 := (HB.out.cell (World.block_lt_of_cell? w _ hx202_4)).trans hx202_4
                replace hx202_5 := (HB.out.cell (World.block_lt_of_cell? w _ hx202_5)).trans hx202_5
                replace hx202_6 := (HB.out.cell (World.block_lt_of_cell? w _ hx202_6)).trans hx202_6
                replace hx202_7 := (HB.out.cell (World.block_lt_of_cell? w _ hx202_7)).trans hx202_7
                replace hx202_8 := (HB.out.cell (World.block_lt_of_cell? w _ hx202_8)).trans hx202_8
                replace p202 := eq_true p202
                replace q202 := eq_true q202
                have p203 : 0 ≤ (x5_1 : Int) := of_decide_eq_true (by first | (with_reducible assumption) | assumption)
                have q203 : x5_1 < (l1.length : Int) := of_decide_eq_true (by first | (with_reducible assumption) | assumption)
                obtain ⟨ad203, e203, hx203_0, hx203_1, hx203_2, hx203_3, hx203_4, hx203_5, hx203_6, hx203_7, hx203_8⟩ := at_T77 HR1.out x5_1 p203 q203
                have hw203_8 := hx203_8
                have hw203_7 := hx203_7
                have hw203_6 := hx203_6
                have hw203_5 := hx203_5
                have hw203_4 := hx203_4
                have hw203_3 := hx203_3
                have hw203_2 := hx203_2
                have hw203_1 := hx203_1
                have hw203_0 := hx203_0
                cases e203
                replace hx203_0 := (HB.out.cell (World.block_lt_of_cell? w _ hx203_0)).trans hx203_0
                replace hx203_1 := (HB.out.cell (World.block_lt_of_cell? w _ hx203_1)).trans hx203_1
                replace hx203_2 := (HB.out.cell (World.block_lt_of_cell? w _ hx203_2)).trans hx203_2
                replace hx203_3 := (HB.out.cell (World.block_lt_of_cell? w _ hx203_3)).trans hx203_3
                replace hx203_4 := (HB.out.cell (World.block_lt_of_cell? w _ hx203_4)).trans hx203_4
                replace hx203_5 := (HB.out.cell (World.block_lt_of_cell? w _ hx203_5)).trans hx203_5
                replace hx203_6 := (HB.out.cell (World.block_lt_of_cell? w _ hx203_6)).trans hx203_6
                replace hx203_7 := (HB.out.cell (World.block_lt_of_cell? w _ hx203_7)).trans hx203_7
                replace hx203_8 := (HB.out.cell (World.block_lt_of_cell? w _ hx203_8)).trans hx203_8
                replace p203 := eq_true p203
                replace q203 := eq_true q203
                refine start_ (n := 10) (S := fun w' => w'.cell? (ad202.add ((x5_1).toNat * 9)) = some (.int .i64 ((rd_T77 l0 x5_1).f0)) ∧ w'.cell? ⟨(ad202.add ((x5_1).toNat * 9)).block, (ad202.add ((x5_1).toNat * 9)).off + 1, none⟩ = some (.int .i64 ((rd_T77 l0 x5_1).f1)) ∧ w'.cell? ⟨(ad202.add ((x5_1).toNat * 9)).block, (ad202.add ((x5_1).toNat * 9)).off + 2, none⟩ = some (.int .i64 ((rd_T77 l0 x5_1).f2.f0)) ∧ w'.cell? ⟨(ad202.add ((x5_1).toNat * 9)).block, (ad202.add ((x5_1).toNat * 9)).off + 3, none⟩ = some (.string ((rd_T77 l0 x5_1).f2.f1)) ∧ w'.cell? ⟨(ad202.add ((x5_1).toNat * 9)).block, (ad202.add ((x5_1).toNat * 9)).off + 4, none⟩ = some (.int .i64 ((rd_T77 l0 x5_1).f2.f2)) ∧ w'.cell? ⟨(ad202.add ((x5_1).toNat * 9)).block, (ad202.add ((x5_1).toNat * 9)).off + 5, none⟩ = some (.int .i64 ((rd_T77 l0 x5_1).f2.f3)) ∧ w'.cell? ⟨(ad202.add ((x5_1).toNat * 9)).block, (ad202.add ((x5_1).toNat * 9)).off + 6, none⟩ = some (.int .i64 ((rd_T77 l0 x5_1).f3)) ∧ w'.cell? ⟨(ad202.add ((x5_1).toNat * 9)).block, (ad202.add ((x5_1).toNat * 9)).off + 7, none⟩ = some (.int .i64 ((rd_T77 l0 x5_1).f4)) ∧ w'.cell? ⟨(ad202.add ((x5_1).toNat * 9)).block, (ad202.add ((x5_1).toNat * 9)).off + 8, none⟩ = some (.int .i64 ((rd_T77 l0 x5_1).f5)) ∧ w'.cell? (ad203.add ((x5_1).toNat * 9)) = some (.int .i64 ((rd_T77 l1 x5_1).f0)) ∧ w'.cell? ⟨(ad203.add ((x5_1).toNat * 9)).block, (ad203.add ((x5_1).toNat * 9)).off + 1, none⟩ = some (.int .i64 ((rd_T77 l1 x5_1).f1)) ∧ w'.cell? ⟨(ad203.add ((x5_1).toNat * 9)).block, (ad203.add ((x5_1).toNat * 9)).off + 2, none⟩ = some (.int .i64 ((rd_T77 l1 x5_1).f2.f0)) ∧ w'.cell? ⟨(ad203.add ((x5_1).toNat * 9)).block, (ad203.add ((x5_1).toNat * 9)).off + 3, none⟩ = some (.string ((rd_T77 l1 x5_1).f2.f1)) ∧ w'.cell? ⟨(ad203.add ((x5_1).toNat * 9)).block, (ad203.add ((x5_1).toNat * 9)).off + 4, none⟩ = some (.int .i64 ((rd_T77 l1 x5_1).f2.f2)) ∧ w'.cell? ⟨(ad203.add ((x5_1).toNat * 9)).block, (ad203.add ((x5_1).toNat * 9)).off + 5, none⟩ = some (.int .i64 ((rd_T77 l1 x5_1).f2.f3)) ∧ w'.cell? ⟨(ad203.add ((x5_1).toNat * 9)).block, (ad203.add ((x5_1).toNat * 9)).off + 6, none⟩ = some (.int .i64 ((rd_T77 l1 x5_1).f3)) ∧ w'.cell? ⟨(ad203.add ((x5_1).toNat * 9)).block, (ad203.add ((x5_1).toNat * 9)).off + 7, none⟩ = some (.int .i64 ((rd_T77 l1 x5_1).f4)) ∧ w'.cell? ⟨(ad203.add ((x5_1).toNat * 9)).block, (ad203.add ((x5_1).toNat * 9)).off + 8, none⟩ = some (.int .i64 ((rd_T77 l1 x5_1).f5))) (ds := []) #[false, false, false, false, false, false, false, false, false, false] (by kernel_rfl) rfl rfl ⟨((HB.out.cell (World.block_lt_of_cell? w _ hw202_0)).trans hw202_0), ((HB.out.cell (World.block_lt_of_cell? w _ hw202_1)).trans hw202_1), ((HB.out.cell (World.block_lt_of_cell? w _ hw202_2)).trans hw202_2), ((HB.out.cell (World.block_lt_of_cell? w _ hw202_3)).trans hw202_3), ((HB.out.cell (World.block_lt_of_cell? w _ hw202_4)).trans hw202_4), ((HB.out.cell (World.block_lt_of_cell? w _ hw202_5)).trans hw202_5), ((HB.out.cell (World.block_lt_of_cell? w _ hw202_6)).trans hw202_6), ((HB.out.cell (World.block_lt_of_cell? w _ hw202_7)).trans hw202_7), ((HB.out.cell (World.block_lt_of_cell? w _ hw202_8)).trans hw202_8), ((HB.out.cell (World.block_lt_of_cell? w _ hw203_0)).trans hw203_0), ((HB.out.cell (World.block_lt_of_cell? w _ hw203_1)).trans hw203_1), ((HB.out.cell (World.block_lt_of_cell? w _ hw203_2)).trans hw203_2), ((HB.out.cell (World.block_lt_of_cell? w _ hw203_3)).trans hw203_3), ((HB.out.cell (World.block_lt_of_cell? w _ hw203_4)).trans hw203_4), ((HB.out.cell (World.block_lt_of_cell? w _ hw203_5)).trans hw203_5), ((HB.out.cell (World.block_lt_of_cell? w _ hw203_6)).trans hw203_6), ((HB.out.cell (World.block_lt_of_cell? w _ hw203_7)).trans hw203_7), ((HB.out.cell (World.block_lt_of_cell? w _ hw203_8)).trans hw203_8)⟩ (fun hHeld => ?_); refine with_tabW laws_eqResultS.tab6 laws_eqResultS.bits6 (fun HT_ HW_ => ?_)
                generalize wr.drew = w11 at HB hx202_0 hx202_1 hx202_2 hx202_3 hx202_4 hx202_5 hx202_6 hx202_7 hx202_8 hx203_0 hx203_1 hx203_2 hx203_3 hx203_4 hx203_5 hx203_6 hx203_7 hx203_8 hHeld ⊢
                refine pure_ (i := 0) (N := some 17) (v := ?_) (a' := ?_) #[true, false, false, false, false, false, false, false, false, false] rfl rfl (any_of HT_.out (by kernel_rfl)) (fun _ _ _ h => h) (Or.inl ⟨by rfl, ?_⟩) ?_ ?_
                rotate_left
                · intro w'
                  go_simp
                  with_reducible rfl
                rotate_left
                · simp only [Act.put, List.setIfInBounds_toArray, List.set_cons_zero, List.set_cons_succ, i64_w, i32_w]
                  rfl
                refine pure_ (i := 1) (N := some 18) (v := ?_) (a' := ?_) #[true, true, false, false, false, false, false, false, false, false] rfl rfl (any_of HT_.out (by kernel_rfl)) (fun _ _ _ h => h) (Or.inl ⟨by rfl, ?_⟩) ?_ ?_
                rotate_left
                · intro w'
                  go_simp
                  with_reducible rfl
                rotate_left
                · simp only [Act.put, List.setIfInBounds_toArray, List.set_cons_zero, List.set_cons_succ, i64_w, i32_w]
                  rfl
                refine pure_ (i := 2) (N := some 19) (v := ?_) (a' := ?_) #[true, true, true, false, false, false, false, false, false, false] rfl rfl (any_of HT_.out (by kernel_rfl)) (fun _ _ _ h => h) (Or.inl ⟨by rfl, ?_⟩) ?_ ?_
                rotate_left
                · intro w'
                  go_simp
                  with_reducible rfl
                rotate_left
                · simp only [Act.put, List.setIfInBounds_toArray, List.set_cons_zero, List.set_cons_succ, i64_w, i32_w]
                  rfl
                refine pure_ (i := 4) (N := some 21) (v := ?_) (a' := ?_) #[true, true, true, false, true, false, false, false, false, false] rfl rfl (any_of HT_.out (by kernel_rfl)) (fun _ _ _ h => h) (Or.inl ⟨by rfl, ?_⟩) ?_ ?_
                rotate_left
                · intro w'
                  go_simp
                  with_reducible rfl
                rotate_left
                · simp only [Act.put, List.setIfInBounds_toArray, List.set_cons_zero, List.set_cons_succ, i64_w, i32_w]
                  rfl
                refine pure_ (i := 5) (N := some 22) (v := ?_) (a' := ?_) #[true, true, true, false, true, true, false, false, false, false] rfl rfl (any_of HT_.out (by kernel_rfl)) (fun _ _ _ h => h) (Or.inl ⟨by rfl, ?_⟩) ?_ ?_
                rotate_left
                · intro w'
                  go_simp
                  with_reducible rfl
                rotate_left
                · simp only [Act.put, List.setIfInBounds_toArray, List.set_cons_zero, List.set_cons_succ, i64_w, i32_w]
                  rfl
                refine pure_ (i := 6) (N := some 23) (v := ?_) (a' := ?_) #[true, true, true, false, true, true, true, false, false, false] rfl rfl (any_of HT_.out (by kernel_rfl)) (fun _ _ _ h => h) (Or.inl ⟨by rfl, ?_⟩) ?_ ?_
                rotate_left
                · intro w'
                  go_simp
                  with_reducible rfl
                rotate_left
                · simp only [Act.put, List.setIfInBounds_toArray, List.set_cons_zero, List.set_cons_succ, i64_w, i32_w]
                  rfl
                refine take_ (i := 3) (N := some 20) (v := ?_) (a' := ?_) #[true, true, true, true, true, true, true, false, false, false] rfl rfl (take_ofW HT_.out HW_.out (by kernel_rfl)) (fun _ _ _ h => h) (Or.inl ⟨by rfl, ?_⟩) hHeld ?_ ?_
                rotate_left
                · rintro w' ⟨s0, s1, s2, s3, s4, s5, s6, s7, s8, s9, s10, s11, s12, s13, s14, s15, s16, s17⟩
                  go_simp
                  with_reducible rfl
                rotate_left
                · simp only [Act.put, List.setIfInBounds_toArray, List.set_cons_zero, List.set_cons_succ, i64_w, i32_w]
                  rfl
                refine take_ (i := 7) (N := some 24) (v := ?_) (a' := ?_) #[true, true, true, true, true, true, true, true, false, false] rfl rfl (take_ofW HT_.out HW_.out (by kernel_rfl)) (fun _ _ _ h => h) (Or.inl ⟨by rfl, ?_⟩) hHeld ?_ ?_
                rotate_left
                · rintro w' ⟨s0, s1, s2, s3, s4, s5, s6, s7, s8, s9, s10, s11, s12, s13, s14, s15, s16, s17⟩
                  go_simp
                  with_reducible rfl
                rotate_left
                · simp only [Act.put, List.setIfInBounds_toArray, List.set_cons_zero, List.set_cons_succ, i64_w, i32_w]
                  rfl
                refine one_ (i := 8) (N := some 25) #[true, true, true, true, true, true, true, true, true, false] rfl rfl (one_of HT_.out (by kernel_rfl)) (by decide) (fun K hK => ?_)
                refine goes_ Try.func89 (by kernel_rfl) rfl #[.agg #[.int .i64 ((rd_T77 l0 x5_1).f0), .int .i64 ((rd_T77 l0 x5_1).f1), .int .i64 ((rd_T77 l0 x5_1).f2.f0), .string ((rd_T77 l0 x5_1).f2.f1), .int .i64 ((rd_T77 l0 x5_1).f2.f2), .int .i64 ((rd_T77 l0 x5_1).f2.f3), .int .i64 ((rd_T77 l0 x5_1).f3), .int .i64 ((rd_T77 l0 x5_1).f4), .int .i64 ((rd_T77 l0 x5_1).f5)], .agg #[.int .i64 ((rd_T77 l1 x5_1).f0), .int .i64 ((rd_T77 l1 x5_1).f1), .int .i64 ((rd_T77 l1 x5_1).f2.f0), .string ((rd_T77 l1 x5_1).f2.f1), .int .i64 ((rd_T77 l1 x5_1).f2.f2), .int .i64 ((rd_T77 l1 x5_1).f2.f3), .int .i64 ((rd_T77 l1 x5_1).f3), .int .i64 ((rd_T77 l1 x5_1).f4), .int .i64 ((rd_T77 l1 x5_1).f5)]] (by rfl) rfl rfl (by (try simp only [List.map_toArray, List.map_cons, List.map_nil]); first | done | rfl | (simp only [List.length_drop, List.length_take]; rfl)) ?_
                with_reducible refine (laws_eqResult.calls ((rd_T77 l0 x5_1).f0) ((rd_T77 l0 x5_1).f1) ((rd_T77 l0 x5_1).f2.f0) ((rd_T77 l0 x5_1).f2.f1) ((rd_T77 l0 x5_1).f2.f2) ((rd_T77 l0 x5_1).f2.f3) ((rd_T77 l0 x5_1).f3) ((rd_T77 l0 x5_1).f4) ((rd_T77 l0 x5_1).f5) ((rd_T77 l1 x5_1).f0) ((rd_T77 l1 x5_1).f1) ((rd_T77 l1 x5_1).f2.f0) ((rd_T77 l1 x5_1).f2.f1) ((rd_T77 l1 x5_1).f2.f2) ((rd_T77 l1 x5_1).f2.f3) ((rd_T77 l1 x5_1).f3) ((rd_T77 l1 x5_1).f4) ((rd_T77 l1 x5_1).f5) false _ A7.out).mono ?_
                rintro e w12 ⟨rfl, hb⟩
                refine ⟨_, rfl, ?_⟩
                have n0_ := Aside0.mk (below_step (by repeat (first | (with_reducible first | exact HB.out | apply below_alloc | apply pw_below_drewN | apply below_drew1) | exact HB.out)) hb)
                clear HB
                have HB := n0_
                clear n0_
                (try clear hb)
                (try clear hb2)
                (try clear hk)
                (try clear hi)
                refine hK.out _ _ ⟨((HB.out.cell (World.block_lt_of_cell? w _ hw202_0)).trans hw202_0), ((HB.out.cell (World.block_lt_of_cell? w _ hw202_1)).trans hw202_1), ((HB.out.cell (World.block_lt_of_cell? w _ hw202_2)).trans hw202_2), ((HB.out.cell (World.block_lt_of_cell? w _ hw202_3)).trans hw202_3), ((HB.out.cell (World.block_lt_of_cell? w _ hw202_4)).trans hw202_4), ((HB.out.cell (World.block_lt_of_cell? w _ hw202_5)).trans hw202_5), ((HB.out.cell (World.block_lt_of_cell? w _ hw202_6)).trans hw202_6), ((HB.out.cell (World.block_lt_of_cell? w _ hw202_7)).trans hw202_7), ((HB.out.cell (World.block_lt_of_cell? w _ hw202_8)).trans hw202_8), ((HB.out.cell (World.block_lt_of_cell? w _ hw203_0)).trans hw203_0), ((HB.out.cell (World.block_lt_of_cell? w _ hw203_1)).trans hw203_1), ((HB.out.cell (World.block_lt_of_cell? w _ hw203_2)).trans hw203_2), ((HB.out.cell (World.block_lt_of_cell? w _ hw203_3)).trans hw203_3), ((HB.out.cell (World.block_lt_of_cell? w _ hw203_4)).trans hw203_4), ((HB.out.cell (World.block_lt_of_cell? w _ hw203_5)).trans hw203_5), ((HB.out.cell (World.block_lt_of_cell? w _ hw203_6)).trans hw203_6), ((HB.out.cell (World.block_lt_of_cell? w _ hw203_7)).trans hw203_7), ((HB.out.cell (World.block_lt_of_cell? w _ hw203_8)).trans hw203_8)⟩ (fun hHeld => ?_)
                clear hK K
                refine norm_ (a' := ?_) ?_ ?_
                rotate_left
                · show Act.put _ (some 25) _ = _
                  simp only [Act.put, List.setIfInBounds_toArray, List.set_cons_zero, List.set_cons_succ, i64_w, i32_w]
                  rfl
                refine pure_ (i := 9) (N := some 26) (v := ?_) (a' := ?_) #[true, true, true, true, true, true, true, true, true, true] rfl rfl (any_of HT_.out (by kernel_rfl)) (fun _ _ _ h => h) (Or.inl ⟨by rfl, ?_⟩) ?_ ?_
                rotate_left
                · intro w'
                  go_simp
                  with_reducible rfl
                rotate_left
                · simp only [Act.put, List.setIfInBounds_toArray, List.set_cons_zero, List.set_cons_succ, i64_w, i32_w]
                  rfl
                refine done_ (done_of HT_.out (by kernel_rfl)) ?_
                try go_wp2
                go_ret
                exact ⟨by first | rfl | (simp [errW_none, errW_some] <;> rfl) | (simp [*, errW_none, errW_some] <;> rfl) | (simp only [IntKind.wrap_u8, show ∀ n_ : Int, wrap64 (n_ % 256) = n_ % 256 from fun n_ => by unfold wrap64; omega]; rfl), by repeat (first | (with_reducible first | exact HB.out | apply below_alloc | apply pw_below_drewN | apply below_drew1) | exact HB.out)⟩
            · rw [if_neg c6] at H
              exact absurd H (by simp)
          · rw [if_neg c5] at H
            exact absurd H (by simp)
        · rw [if_neg c4] at H
          have c4b0 : decide (x5_1 < (l0.length : Int)) = false := decide_eq_false c4
          clear c4
          obtain rfl := Option.some.inj H
          go_wp2
          go_ret
          exact ⟨by first | rfl | (simp [errW_none, errW_some] <;> rfl) | (simp [*, errW_none, errW_some] <;> rfl) | (simp only [IntKind.wrap_u8, show ∀ n_ : Int, wrap64 (n_ % 256) = n_ % 256 from fun n_ => by unfold wrap64; omega]; rfl), by repeat (first | (with_reducible first | exact HB.out | apply below_alloc | apply pw_below_drewN | apply below_drew1) | exact HB.out)⟩
  · rw [if_neg c3] at H
    have c3b0 : ((l0.length : Int) == (l1.length : Int)) = false := beq_eq_false_iff_ne.mpr c3
    have c3b1 : ((l0.length : Int) != (l1.length : Int)) = true := bne_iff_ne.mpr c3
    have c3b2 : (l0.length == l1.length) = false := by first | simpa using c3 | (simp at c3 ⊢; omega)
    obtain rfl := Option.some.inj H
    go_enter Try.func39, Try.ntmps39
    go_wp2
    go_ret
    exact ⟨by first | rfl | (simp [errW_none, errW_some] <;> rfl) | (simp [*, errW_none, errW_some] <;> rfl) | (simp only [IntKind.wrap_u8, show ∀ n_ : Int, wrap64 (n_ % 256) = n_ % 256 from fun n_ => by unfold wrap64; omega]; rfl), by repeat (first | (with_reducible first | exact HB.out | apply below_alloc | apply pw_below_drewN | apply below_drew1) | exact HB.out)⟩

/-! ### laws_eqIntS: function 40 -/
def laws_eqIntS.l0 : Nat → List Int → List Int → Int → Option (Bool)
  | 0, _, _, _ => none
  | k + 1, x0, x1, x5 => if x5 < (x0.length : Int) then (if 0 ≤ x5 then (if x5 < (x1.length : Int) then (if (rd x0 x5) = (rd x1 x5) then (laws_eqIntS.l0 k x0 x1 (wrap64 (x5 + 1))) else (some false)) else (none)) else (none)) else (some true)
def laws_eqIntS.f (k : Nat) (l0 : List Int) (l1 : List Int) : Option (Bool) := if (l0.length : Int) = (l1.length : Int) then (laws_eqIntS.l0 k l0 l1 0) else (some false)
theorem laws_eqIntS.mono_l : ∀ k, (∀ y0 y1 y2, LeO (laws_eqIntS.l0 k y0 y1 y2) (laws_eqIntS.l0 (k + 1) y0 y1 y2))
  | 0 => fun _ _ _ r h => by simp [laws_eqIntS.l0] at h
  | k + 1 => by
    have ih0 := laws_eqIntS.mono_l k
    · intro y0 y1 y2
      unfold laws_eqIntS.l0
      repeat' first
      | (with_reducible exact ih0 _ _ _)
      | (with_reducible exact LeO.refl _)
      | (with_reducible exact LeO.none _)
      | (with_reducible refine LeO.ite ?_ ?_)
      | (with_reducible refine LeO.bind ?_ (fun _ => ?_))
      | exact ih0 _ _ _
      | exact LeO.none _
      | refine LeO.ite ?_ ?_
      | refine LeO.bind ?_ (fun _ => ?_)
theorem laws_eqIntS.mono : ∀ a0 a1 k, LeO (laws_eqIntS.f k a0 a1) (laws_eqIntS.f (k + 1) a0 a1) := by
  intro a0 a1 k
  have ih0 := laws_eqIntS.mono_l k
  unfold laws_eqIntS.f
  repeat' first
      | (with_reducible exact ih0 _ _ _)
      | (with_reducible exact LeO.refl _)
      | (with_reducible exact LeO.none _)
      | (with_reducible refine LeO.ite ?_ ?_)
      | (with_reducible refine LeO.bind ?_ (fun _ => ?_))
      | exact ih0 _ _ _
      | exact LeO.none _
      | refine LeO.ite ?_ ?_
      | refine LeO.bind ?_ (fun _ => ?_)
set_option maxHeartbeats 8000000 in
set_option maxRecDepth 100000 in
theorem laws_eqIntS.calls (k : Nat) (A0 : Option Addr) (c0 : Nat) (l0 : List Int) (A1 : Option Addr) (c1 : Nat) (l1 : List Int) (r : Bool) (w : World) (hr0 : Kd.C (Kd.int .i64) w A0 l0.length l0) (hc0 : l0.length ≤ c0) (hr1 : Kd.C (Kd.int .i64) w A1 l1.length l1) (hc1 : l1.length ≤ c1) (h : laws_eqIntS.f k l0 l1 = some r) :
    Calls Try.prog 40 #[.slice A0 l0.length c0, .slice A1 l1.length c1] w fun e w' => e = .returned (.bool r) ∧ Drawn0 w w' := by
  have HR0 := Aside0.mk hr0
  have HC0 := Aside0.mk hc0
  clear hr0 hc0
  have HR1 := Aside0.mk hr1
  have HC1 := Aside0.mk hc1
  clear hr1 hc1
  have H : (if (l0.length : Int) = (l1.length : Int) then (laws_eqIntS.l0 k l0 l1 0) else (some false)) = some r := h
  clear h
  by_cases c3 : (l0.length : Int) = (l1.length : Int)
  · rw [if_pos c3] at H
    have c3b0 : ((l0.length : Int) == (l1.length : Int)) = true := beq_iff_eq.mpr c3
    have c3b1 : ((l0.length : Int) != (l1.length : Int)) = false := bne_eq_false_iff_eq.mpr c3
    have c3b2 : (l0.length == l1.length) = true := by first | simpa using c3 | (simp at c3 ⊢; omega)
    clear c3
    have H' := Aside0.mk H
    clear H
    go_enter Try.func40, Try.ntmps40
    go_wp2
    repeat (go_quiet (fail); try go_wp2)
    go_loopg [5] k (fun kq v5 w' => ∃ (x5_1 : Int), v5 = .int .i64 x5_1 ∧ Aside0 (laws_eqIntS.l0 kq l0 l1 x5_1 = some r) ∧ Aside0 (kq ≤ k) ∧ Drawn0 w w')
    case atStart => exact ⟨(0), (by first | rfl | (simp; done) | (simp [*]; done) | (simp [bne_nil_, beq_nil_]; done)), H', ⟨Nat.le_refl _⟩, by repeat (first | exact Drawn0.refl _ | apply Drawn0.step)⟩
    case round =>
      clear H'
      try clear c1
      try clear p2
      try clear c3
      try clear c3b0
      try clear c3b1
      try clear c3b2
      obtain ⟨x5_1, rfl, HA, HK1, ⟨m1, rfl⟩⟩ := hrel
      cases gk with
      | zero => exact absurd HA.out (by simp [laws_eqIntS.l0])
      | succ k1 =>
        have H := HA.out
        clear HA
        simp only [laws_eqIntS.l0] at H
        by_cases c4 : x5_1 < (l0.length : Int)
        · rw [if_pos c4] at H
          have c4b0 : decide (x5_1 < (l0.length : Int)) = true := decide_eq_true c4
          clear c4
          by_cases c5 : 0 ≤ x5_1
          · rw [if_pos c5] at H
            have c5b0 : decide (0 ≤ x5_1) = true := decide_eq_true c5
            clear c5
            by_cases c6 : x5_1 < (l1.length : Int)
            · rw [if_pos c6] at H
              have c6b0 : decide (x5_1 < (l1.length : Int)) = true := decide_eq_true c6
              clear c6
              by_cases c7 : (rd l0 x5_1) = (rd l1 x5_1)
              · rw [if_pos c7] at H
                have c7b0 : ((rd l0 x5_1) == (rd l1 x5_1)) = true := beq_iff_eq.mpr c7
                have c7b1 : ((rd l0 x5_1) != (rd l1 x5_1)) = false := bne_eq_false_iff_eq.mpr c7
                clear c7
                have H' := Aside0.mk H
                clear H
                have p205 : 0 ≤ (x5_1 : Int) := of_decide_eq_true (by first | (with_reducible assumption) | assumption)
                have q205 : x5_1 < (l0.length : Int) := of_decide_eq_true (by first | (with_reducible assumption) | assumption)
                obtain ⟨ad205, e205, hx205_0⟩ := Kd.at_int HR0.out x5_1 p205 q205
                cases e205
                replace p205 := eq_true p205
                replace q205 := eq_true q205
                have p206 : 0 ≤ (x5_1 : Int) := of_decide_eq_true (by first | (with_reducible assumption) | assumption)
                have q206 : x5_1 < (l1.length : Int) := of_decide_eq_true (by first | (with_reducible assumption) | assumption)
                obtain ⟨ad206, e206, hx206_0⟩ := Kd.at_int HR1.out x5_1 p206 q206
                cases e206
                replace p206 := eq_true p206
                replace q206 := eq_true q206
                go_wp2
                repeat (go_quiet (fail); try go_wp2)
                go_roundg k1
                case measure => have := HK1.out; omega
                case rel => exact ⟨(wrap64 (x5_1 + 1)), (by first | rfl | (simp; done) | (simp [*]; done) | (simp [bne_nil_, beq_nil_]; done)), H', ⟨by have := HK1.out; omega⟩, by repeat (first | exact Drawn0.refl _ | apply Drawn0.step)⟩
              · rw [if_neg c7] at H
                have c7b0 : ((rd l0 x5_1) == (rd l1 x5_1)) = false := beq_eq_false_iff_ne.mpr c7
                have c7b1 : ((rd l0 x5_1) != (rd l1 x5_1)) = true := bne_iff_ne.mpr c7
                obtain rfl := Option.some.inj H
                have p205 : 0 ≤ (x5_1 : Int) := of_decide_eq_true (by first | (with_reducible assumption) | assumption)
                have q205 : x5_1 < (l0.length : Int) := of_decide_eq_true (by first | (with_reducible assumption) | assumption)
                obtain ⟨ad205, e205, hx205_0⟩ := Kd.at_int HR0.out x5_1 p205 q205
                cases e205
                replace p205 := eq_true p205
                replace q205 := eq_true q205
                have p206 : 0 ≤ (x5_1 : Int) := of_decide_eq_true (by first | (with_reducible assumption) | assumption)
                have q206 : x5_1 < (l1.length : Int) := of_decide_eq_true (by first | (with_reducible assumption) | assumption)
                obtain ⟨ad206, e206, hx206_0⟩ := Kd.at_int HR1.out x5_1 p206 q206
                cases e206
                replace p206 := eq_true p206
                replace q206 := eq_true q206
                go_wp2
                repeat (go_quiet (fail); try go_wp2)
                go_ret
                exact ⟨by first | rfl | (simp; done) | (simp [*]; done) | (simp [bne_nil_, beq_nil_]; done), by repeat (first | exact Drawn0.refl _ | apply Drawn0.step)⟩
            · rw [if_neg c6] at H
              exact absurd H (by simp)
          · rw [if_neg c5] at H
            exact absurd H (by simp)
        · rw [if_neg c4] at H
          have c4b0 : decide (x5_1 < (l0.length : Int)) = false := decide_eq_false c4
          clear c4
          obtain rfl := Option.some.inj H
          go_wp2
          repeat (go_quiet (fail); try go_wp2)
          go_ret
          exact ⟨by first | rfl | (simp; done) | (simp [*]; done) | (simp [bne_nil_, beq_nil_]; done), by repeat (first | exact Drawn0.refl _ | apply Drawn0.step)⟩
  · rw [if_neg c3] at H
    have c3b0 : ((l0.length : Int) == (l1.length : Int)) = false := beq_eq_false_iff_ne.mpr c3
    have c3b1 : ((l0.length : Int) != (l1.length : Int)) = true := bne_iff_ne.mpr c3
    have c3b2 : (l0.length == l1.length) = false := by first | simpa using c3 | (simp at c3 ⊢; omega)
    obtain rfl := Option.some.inj H
    go_enter Try.func40, Try.ntmps40
    go_wp2
    repeat (go_quiet (fail); try go_wp2)
    go_ret
    exact ⟨by first | rfl | (simp; done) | (simp [*]; done) | (simp [bne_nil_, beq_nil_]; done), by repeat (first | exact Drawn0.refl _ | apply Drawn0.step)⟩

/-! ### laws_FnExactRealTime: function 8 -/
def laws_FnExactRealTime.f (k : Nat) (l0 : List (S118)) (l1 : List Int) : Option (Bool) := if (l1.length : Int) > 1048576 then (some true) else ((laws_szResultS.f k l0 1048576).bind fun t207 => (if t207 < 0 then (some true) else ((laws_toResultS.f k l0).bind fun t208 => ((laws_toIntS.f k l1).bind fun t211 => ((spec_RealTime.f k t208 t211).bind fun t214 => ((laws_toResultS.f k l0).bind fun t215 => ((laws_toIntS.f k l1).bind fun t218 => ((impl_RealTime.f k t215 t218).bind fun t221 => (if (t221 != t214) = true then (some false) else ((laws_toResultS.f k l0).bind fun t222 => ((laws_eqResultS.f k t215 t222).bind fun t225 => (if t225 = true then ((laws_toIntS.f k l1).bind fun t226 => ((laws_eqIntS.f k t218 t226).bind fun t229 => (if t229 = true then (some true) else (some false)))) else (some false)))))))))))))
theorem laws_FnExactRealTime.mono : ∀ a0 a1 k, LeO (laws_FnExactRealTime.f k a0 a1) (laws_FnExactRealTime.f (k + 1) a0 a1) := by
  intro a0 a1 k
  unfold laws_FnExactRealTime.f
  repeat' first
      | (with_reducible exact impl_RealTime.mono _ _ _)
      | (with_reducible exact laws_eqIntS.mono _ _ _)
      | (with_reducible exact laws_eqResultS.mono _ _ _)
      | (with_reducible exact laws_szResultS.mono _ _ _)
      | (with_reducible exact laws_toIntS.mono _ _)
      | (with_reducible exact laws_toResultS.mono _ _)
      | (with_reducible exact spec_RealTime.mono _ _ _)
      | (with_reducible exact LeO.refl _)
      | (with_reducible exact LeO.none _)
      | (with_reducible refine LeO.ite ?_ ?_)
      | (with_reducible refine LeO.bind ?_ (fun _ => ?_))
      | exact impl_RealTime.mono _ _ _
      | exact laws_eqIntS.mono _ _ _
      | exact laws_eqResultS.mono _ _ _
      | exact laws_szResultS.mono _ _ _
      | exact laws_toIntS.mono _ _
      | exact laws_toResultS.mono _ _
      | exact spec_RealTime.mono _ _ _
      | exact LeO.none _
      | refine LeO.ite ?_ ?_
      | refine LeO.bind ?_ (fun _ => ?_)
set_option maxHeartbeats 8000000 in
set_option maxRecDepth 100000 in
theorem laws_FnExactRealTime.calls (k : Nat) (A0 : Option Addr) (c0 : Nat) (l0 : List (S118)) (A1 : Option Addr) (c1 : Nat) (l1 : List Int) (r : Bool) (w : World) (hr0 : Kd.C k118 w A0 l0.length l0) (hc0 : l0.length ≤ c0) (hr1 : Kd.C (Kd.int .i64) w A1 l1.length l1) (hc1 : l1.length ≤ c1) (h : laws_FnExactRealTime.f k l0 l1 = some r) (hrt : Aside0 (r = true)) :
    Calls Try.prog 8 #[.slice A0 l0.length c0, .slice A1 l1.length c1] w fun e w' => e = .returned (.bool r) ∧ Below w.heap.size w w' := by
  have HR0 := Aside0.mk hr0
  have HC0 := Aside0.mk hc0
  clear hr0 hc0
  have HR1 := Aside0.mk hr1
  have HC1 := Aside0.mk hc1
  clear hr1 hc1
  have HB := Aside0.mk (Below.refl w.heap.size w)
  have H : (if (l1.length : Int) > 1048576 then (some true) else ((laws_szResultS.f k l0 1048576).bind fun t207 => (if t207 < 0 then (some true) else ((laws_toResultS.f k l0).bind fun t208 => ((laws_toIntS.f k l1).bind fun t211 => ((spec_RealTime.f k t208 t211).bind fun t214 => ((laws_toResultS.f k l0).bind fun t215 => ((laws_toIntS.f k l1).bind fun t218 => ((impl_RealTime.f k t215 t218).bind fun t221 => (if (t221 != t214) = true then (some false) else ((laws_toResultS.f k l0).bind fun t222 => ((laws_eqResultS.f k t215 t222).bind fun t225 => (if t225 = true then ((laws_toIntS.f k l1).bind fun t226 => ((laws_eqIntS.f k t218 t226).bind fun t229 => (if t229 = true then (some true) else (some false)))) else (some false)))))))))))))) = some r := h
  clear h
  by_cases c3 : (l1.length : Int) > 1048576
  · rw [if_pos c3] at H
    have c3b0 : decide (1048576 < (l1.length : Int)) = true := decide_eq_true c3
    have c3b1 : decide (1048576 < l1.length) = true := decide_eq_true (by omega)
    clear c3
    obtain rfl := Option.some.inj H
    go_enter Try.func8, Try.ntmps8
    go_wp2
    go_ret
    exact ⟨by first | rfl | (simp [errW_none, errW_some] <;> rfl) | (simp [*, errW_none, errW_some] <;> rfl) | (simp only [IntKind.wrap_u8, show ∀ n_ : Int, wrap64 (n_ % 256) = n_ % 256 from fun n_ => by unfold wrap64; omega]; rfl), by repeat (first | (with_reducible first | exact HB.out | apply below_alloc | apply pw_below_drewN | apply below_drew1) | exact HB.out)⟩
  · rw [if_neg c3] at H
    have c3b0 : decide (1048576 < (l1.length : Int)) = false := decide_eq_false c3
    have c3b1 : decide (1048576 < l1.length) = false := decide_eq_false (by omega)
    clear c3
    replace H := Option.bind_eq_some_iff.mp H
    obtain ⟨t207, A40, H⟩ := H
    replace H : (if t207 < 0 then (some true) else ((laws_toResultS.f k l0).bind fun t208 => ((laws_toIntS.f k l1).bind fun t211 => ((spec_RealTime.f k t208 t211).bind fun t214 => ((laws_toResultS.f k l0).bind fun t215 => ((laws_toIntS.f k l1).bind fun t218 => ((impl_RealTime.f k t215 t218).bind fun t221 => (if (t221 != t214) = true then (some false) else ((laws_toResultS.f k l0).bind fun t222 => ((laws_eqResultS.f k t215 t222).bind fun t225 => (if t225 = true then ((laws_toIntS.f k l1).bind fun t226 => ((laws_eqIntS.f k t218 t226).bind fun t229 => (if t229 = true then (some true) else (some false)))) else (some false)))))))))))) = some r := H
    have A4 := Aside0.mk A40
    clear A40
    by_cases c5 : t207 < 0
    · rw [if_pos c5] at H
      have c5b0 : decide (t207 < 0) = true := decide_eq_true c5
      clear c5
      obtain rfl := Option.some.inj H
      go_enter Try.func8, Try.ntmps8
      go_wp2_with (first | ((with_reducible refine gate_callee (f := 34) rfl ?_); refine goesL_ (some 15) rfl rfl Try.func34 (by kernel_rfl) rfl #[.slice A0 l0.length c0, .int .i64 1048576] rfl (by (try simp only [List.map_toArray, List.map_cons, List.map_nil]); first | done | rfl | (simp only [List.length_drop, List.length_take]; rfl)) ?_; (with_reducible refine (laws_szResultS.calls k _ _ l0 1048576 t207 _ ?side1 ?side2 A4.out).mono ?_); (case side1 => repeat (first | exact HR0.out | (with_reducible refine Kd.C_alloc ?_ _) | (with_reducible refine Kd.C_drewN ?_ _) | (with_reducible refine Kd.C_drew ?_))); (case side2 => exact HC0.out); rintro e w6 ⟨rfl, hb⟩; refine ⟨_, rfl, ?_⟩; have n0_ := Aside0.mk (below_step (by repeat (first | (with_reducible first | exact HB.out | apply below_alloc | apply pw_below_drewN | apply below_drew1) | exact HB.out)) hb); clear HB; have HB := n0_; clear n0_; (try clear hb); (try clear hb2); (try clear hk); (try clear hi)))
      go_ret
      exact ⟨by first | rfl | (simp [errW_none, errW_some] <;> rfl) | (simp [*, errW_none, errW_some] <;> rfl) | (simp only [IntKind.wrap_u8, show ∀ n_ : Int, wrap64 (n_ % 256) = n_ % 256 from fun n_ => by unfold wrap64; omega]; rfl), by repeat (first | (with_reducible first | exact HB.out | apply below_alloc | apply pw_below_drewN | apply below_drew1) | exact HB.out)⟩
    · rw [if_neg c5] at H
      have c5b0 : decide (t207 < 0) = false := decide_eq_false c5
      clear c5
      replace H := Option.bind_eq_some_iff.mp H
      obtain ⟨t208, A70, H⟩ := H
      replace H : ((laws_toIntS.f k l1).bind fun t211 => ((spec_RealTime.f k t208 t211).bind fun t214 => ((laws_toResultS.f k l0).bind fun t215 => ((laws_toIntS.f k l1).bind fun t218 => ((impl_RealTime.f k t215 t218).bind fun t221 => (if (t221 != t214) = true then (some false) else ((laws_toResultS.f k l0).bind fun t222 => ((laws_eqResultS.f k t215 t222).bind fun t225 => (if t225 = true then ((laws_toIntS.f k l1).bind fun t226 => ((laws_eqIntS.f k t218 t226).bind fun t229 => (if t229 = true then (some true) else (some false)))) else (some false)))))))))) = some r := H
      have A7 := Aside0.mk A70
      clear A70
      replace H := Option.bind_eq_some_iff.mp H
      obtain ⟨t211, A80, H⟩ := H
      replace H : ((spec_RealTime.f k t208 t211).bind fun t214 => ((laws_toResultS.f k l0).bind fun t215 => ((laws_toIntS.f k l1).bind fun t218 => ((impl_RealTime.f k t215 t218).bind fun t221 => (if (t221 != t214) = true then (some false) else ((laws_toResultS.f k l0).bind fun t222 => ((laws_eqResultS.f k t215 t222).bind fun t225 => (if t225 = true then ((laws_toIntS.f k l1).bind fun t226 => ((laws_eqIntS.f k t218 t226).bind fun t229 => (if t229 = true then (some true) else (some false)))) else (some false))))))))) = some r := H
      have A8 := Aside0.mk A80
      clear A80
      replace H := Option.bind_eq_some_iff.mp H
      obtain ⟨t214, A90, H⟩ := H
      replace H : ((laws_toResultS.f k l0).bind fun t215 => ((laws_toIntS.f k l1).bind fun t218 => ((impl_RealTime.f k t215 t218).bind fun t221 => (if (t221 != t214) = true then (some false) else ((laws_toResultS.f k l0).bind fun t222 => ((laws_eqResultS.f k t215 t222).bind fun t225 => (if t225 = true then ((laws_toIntS.f k l1).bind fun t226 => ((laws_eqIntS.f k t218 t226).bind fun t229 => (if t229 = true then (some true) else (some false)))) else (some false)))))))) = some r := H
      have A9 := Aside0.mk A90
      clear A90
      replace H := Option.bind_eq_some_iff.mp H
      obtain ⟨t215, A100, H⟩ := H
      replace H : ((laws_toIntS.f k l1).bind fun t218 => ((impl_RealTime.f k t215 t218).bind fun t221 => (if (t221 != t214) = true then (some false) else ((laws_toResultS.f k l0).bind fun t222 => ((laws_eqResultS.f k t215 t222).bind fun t225 => (if t225 = true then ((laws_toIntS.f k l1).bind fun t226 => ((laws_eqIntS.f k t218 t226).bind fun t229 => (if t229 = true then (some true) else (some false)))) else (some false))))))) = some r := H
      have A10 := Aside0.mk A100
      clear A100
      replace H := Option.bind_eq_some_iff.mp H
      obtain ⟨t218, A110, H⟩ := H
      replace H : ((impl_RealTime.f k t215 t218).bind fun t221 => (if (t221 != t214) = true then (some false) else ((laws_toResultS.f k l0).bind fun t222 => ((laws_eqResultS.f k t215 t222).bind fun t225 => (if t225 = true then ((laws_toIntS.f k l1).bind fun t226 => ((laws_eqIntS.f k t218 t226).bind fun t229 => (if t229 = true then (some true) else (some false)))) else (some false)))))) = some r := H
      have A11 := Aside0.mk A110
      clear A110
      replace H := Option.bind_eq_some_iff.mp H
      obtain ⟨t221, A120, H⟩ := H
      replace H : (if (t221 != t214) = true then (some false) else ((laws_toResultS.f k l0).bind fun t222 => ((laws_eqResultS.f k t215 t222).bind fun t225 => (if t225 = true then ((laws_toIntS.f k l1).bind fun t226 => ((laws_eqIntS.f k t218 t226).bind fun t229 => (if t229 = true then (some true) else (some false)))) else (some false))))) = some r := H
      have A12 := Aside0.mk A120
      clear A120
      by_cases c13 : (t221 != t214) = true
      · rw [if_pos c13] at H
        have c13b0 : (t221 != t214) = true := c13
        (try (have c13b1 : decide (t221 = t214) = false := by simpa using c13))
        (try (have c13b2 : (t221 == t214) = false := by simpa using c13))
        (try (have c13b3 : ¬ (t221 = t214) := by simpa using c13))
        clear c13
        obtain rfl := Option.some.inj H
        exact absurd hrt.out (by simp)
      · rw [if_neg c13] at H
        have c13b0 : (t221 != t214) = false := by simpa using c13
        (try (have c13b1 : decide (t221 = t214) = true := by simpa using c13))
        (try (have c13b2 : (t221 == t214) = true := by simpa using c13))
        clear c13
        replace H := Option.bind_eq_some_iff.mp H
        obtain ⟨t222, A140, H⟩ := H
        replace H : ((laws_eqResultS.f k t215 t222).bind fun t225 => (if t225 = true then ((laws_toIntS.f k l1).bind fun t226 => ((laws_eqIntS.f k t218 t226).bind fun t229 => (if t229 = true then (some true) else (some false)))) else (some false))) = some r := H
        have A14 := Aside0.mk A140
        clear A140
        replace H := Option.bind_eq_some_iff.mp H
        obtain ⟨t225, A150, H⟩ := H
        replace H : (if t225 = true then ((laws_toIntS.f k l1).bind fun t226 => ((laws_eqIntS.f k t218 t226).bind fun t229 => (if t229 = true then (some true) else (some false)))) else (some false)) = some r := H
        have A15 := Aside0.mk A150
        clear A150
        by_cases c16 : t225 = true
        · subst c16
          have H1 : ((laws_toIntS.f k l1).bind fun t226 => ((laws_eqIntS.f k t218 t226).bind fun t229 => (if t229 = true then (some true) else (some false)))) = some r := by rw [if_pos rfl] at H; exact H
          clear H
          have H := H1
          clear H1
          replace H := Option.bind_eq_some_iff.mp H
          obtain ⟨t226, A170, H⟩ := H
          replace H : ((laws_eqIntS.f k t218 t226).bind fun t229 => (if t229 = true then (some true) else (some false))) = some r := H
          have A17 := Aside0.mk A170
          clear A170
          replace H := Option.bind_eq_some_iff.mp H
          obtain ⟨t229, A180, H⟩ := H
          replace H : (if t229 = true then (some true) else (some false)) = some r := H
          have A18 := Aside0.mk A180
          clear A180
          by_cases c19 : t229 = true
          · subst c19
            have H1 : (some true) = some r := by rw [if_pos rfl] at H; exact H
            clear H
            have H := H1
            clear H1
            obtain rfl := Option.some.inj H
            go_enter Try.func8, Try.ntmps8
            go_wp2_with (first | ((with_reducible refine gate_callee (f := 34) rfl ?_); refine goesL_ (some 15) rfl rfl Try.func34 (by kernel_rfl) rfl #[.slice A0 l0.length c0, .int .i64 1048576] rfl (by (try simp only [List.map_toArray, List.map_cons, List.map_nil]); first | done | rfl | (simp only [List.length_drop, List.length_take]; rfl)) ?_; (with_reducible refine (laws_szResultS.calls k _ _ l0 1048576 t207 _ ?side1 ?side2 A4.out).mono ?_); (case side1 => repeat (first | exact HR0.out | (with_reducible refine Kd.C_alloc ?_ _) | (with_reducible refine Kd.C_drewN ?_ _) | (with_reducible refine Kd.C_drew ?_))); (case side2 => exact HC0.out); rintro e w20 ⟨rfl, hb⟩; refine ⟨_, rfl, ?_⟩; have n0_ := Aside0.mk (below_step (by repeat (first | (with_reducible first | exact HB.out | apply below_alloc | apply pw_below_drewN | apply below_drew1) | exact HB.out)) hb); clear HB; have HB := n0_; clear n0_; (try clear hb); (try clear hb2); (try clear hk); (try clear hi)) | ((with_reducible refine gate_callee (f := 36) rfl ?_); refine goesL_ (some 19) rfl rfl Try.func36 (by kernel_rfl) rfl #[.slice A0 l0.length c0] rfl (by (try simp only [List.map_toArray, List.map_cons, List.map_nil]); first | done | rfl | (simp only [List.length_drop, List.length_take]; rfl)) ?_; (with_reducible refine (laws_toResultS.calls k _ _ l0 t208 _ ?side1 ?side2 A7.out).mono ?_); (case side1 => repeat (first | exact (Kd.C_below HR0.out HB.out) | (with_reducible refine Kd.C_alloc ?_ _) | (with_reducible refine Kd.C_drewN ?_ _) | (with_reducible refine Kd.C_drew ?_))); (case side2 => exact HC0.out); rintro e w21 ⟨v209, rfl, ho0, hb⟩; refine ⟨_, rfl, ?_⟩; have n0_ := Aside0.mk (Kd.R_lower ho0 (below_size (by repeat (first | (with_reducible first | exact HB.out | apply below_alloc | apply pw_below_drewN | apply below_drew1) | exact HB.out)))); have n1_ := Aside0.mk (below_step (by repeat (first | (with_reducible first | exact HB.out | apply below_alloc | apply pw_below_drewN | apply below_drew1) | exact HB.out)) hb); clear HB; have HO210 := n0_; have HB := n1_; clear n0_ n1_; (try clear hb); (try clear hb2); (try clear hk); (try clear hi); (try clear ho0)) | ((with_reducible refine gate_callee (f := 37) rfl ?_); refine goesL_ (some 21) rfl rfl Try.func37 (by kernel_rfl) rfl #[.slice A1 l1.length c1] rfl (by (try simp only [List.map_toArray, List.map_cons, List.map_nil]); first | done | rfl | (simp only [List.length_drop, List.length_take]; rfl)) ?_; (with_reducible refine (laws_toIntS.calls k _ _ l1 t211 _ ?side1 ?side2 A8.out).mono ?_); (case side1 => repeat (first | exact (Kd.C_below HR1.out HB.out) | (with_reducible refine Kd.C_alloc ?_ _) | (with_reducible refine Kd.C_drewN ?_ _) | (with_reducible refine Kd.C_drew ?_))); (case side2 => exact HC1.out); rintro e w22 ⟨v212, rfl, ho0, hb⟩; refine ⟨_, rfl, ?_⟩; have n0_ := Aside0.mk (Kd.R_below (by (with_reducible repeat (first | apply Kd.R_alloc | apply Kd.R_drewN | apply Kd.R_drew)); exact HO210.out) hb); have n1_ := Aside0.mk (Kd.R_lower ho0 (below_size (by repeat (first | (with_reducible first | exact HB.out | apply below_alloc | apply pw_below_drewN | apply below_drew1) | exact HB.out)))); have n2_ := Aside0.mk (below_step (by repeat (first | (with_reducible first | exact HB.out | apply below_alloc | apply pw_below_drewN | apply below_drew1) | exact HB.out)) hb); clear HO210; clear HB; have HO210 := n0_; have HO213 := n1_; have HB := n2_; clear n0_ n1_ n2_; (try clear hb); (try clear hb2); (try clear hk); (try clear hi); (try clear ho0); obtain ⟨Ao23, co23, eo23⟩ := Kd.R_slice HO210.out; subst eo23; obtain ⟨Ao24, co24, eo24⟩ := Kd.R_slice HO213.out; subst eo24) | ((with_reducible refine gate_callee (f := 35) rfl ?_); refine goesL_ (some 22) rfl rfl Try.func35 (by kernel_rfl) rfl #[.slice Ao23 t208.length co23, .slice Ao24 t211.length co24] rfl (by (try simp only [List.map_toArray, List.map_cons, List.map_nil]); first | done | rfl | (simp only [List.length_drop, List.length_take]; rfl)) ?_; (with_reducible refine (spec_RealTime.calls k _ _ t208 _ _ t211 t214 _ ?side1 ?side2 ?side3 ?side4 A9.out).mono ?_); (case side1 => repeat (first | exact (Kd.R_reads' HO210.out).2.2 | (with_reducible refine Kd.C_alloc ?_ _) | (with_reducible refine Kd.C_drewN ?_ _) | (with_reducible refine Kd.C_drew ?_))); (case side2 => exact (Kd.R_reads' HO210.out).2.1); (case side3 => repeat (first | exact (Kd.R_reads' HO213.out).2.2 | (with_reducible refine Kd.C_alloc ?_ _) | (with_reducible refine Kd.C_drewN ?_ _) | (with_reducible refine Kd.C_drew ?_))); (case side4 => exact (Kd.R_reads' HO213.out).2.1); rintro e w25 ⟨rfl, hb⟩; refine ⟨_, rfl, ?_⟩; have n0_ := Aside0.mk (Kd.R_below (by (with_reducible repeat (first | apply Kd.R_alloc | apply Kd.R_drewN | apply Kd.R_drew)); exact HO210.out) hb); have n1_ := Aside0.mk (Kd.R_below (by (with_reducible repeat (first | apply Kd.R_alloc | apply Kd.R_drewN | apply Kd.R_drew)); exact HO213.out) hb); have n2_ := Aside0.mk (below_step (by repeat (first | (with_reducible first | exact HB.out | apply below_alloc | apply pw_below_drewN | apply below_drew1) | exact HB.out)) hb); clear HO210; clear HO213; clear HB; have HO210 := n0_; have HO213 := n1_; have HB := n2_; clear n0_ n1_ n2_; (try clear hb); (try clear hb2); (try clear hk); (try clear hi)) | ((with_reducible refine gate_callee (f := 36) rfl ?_); refine goesL_ (some 24) rfl rfl Try.func36 (by kernel_rfl) rfl #[.slice A0 l0.length c0] rfl (by (try simp only [List.map_toArray, List.map_cons, List.map_nil]); first | done | rfl | (simp only [List.length_drop, List.length_take]; rfl)) ?_; (with_reducible refine (laws_toResultS.calls k _ _ l0 t215 _ ?side1 ?side2 A10.out).mono ?_); (case side1 => repeat (first | exact (Kd.C_below HR0.out HB.out) | (with_reducible refine Kd.C_alloc ?_ _) | (with_reducible refine Kd.C_drewN ?_ _) | (with_reducible refine Kd.C_drew ?_))); (case side2 => exact HC0.out); rintro e w26 ⟨v216, rfl, ho0, hb⟩; refine ⟨_, rfl, ?_⟩; have n0_ := Aside0.mk (Kd.R_elder' (by (with_reducible repeat (first | apply Kd.R_alloc | apply Kd.R_drewN | apply Kd.R_drew)); exact HO210.out) (Kd.R_base ho0) hb); have n1_ := Aside0.mk (Kd.R_below (by (with_reducible repeat (first | apply Kd.R_alloc | apply Kd.R_drewN | apply Kd.R_drew)); exact HO213.out) hb); have n2_ := Aside0.mk (Kd.R_lower (Kd.R_new' ho0 (Kd.R_lt (by (with_reducible repeat (first | apply Kd.R_alloc | apply Kd.R_drewN | apply Kd.R_drew)); exact HO210.out))) (below_size (by repeat (first | (with_reducible first | exact HB.out | apply below_alloc | apply pw_below_drewN | apply below_drew1) | exact HB.out)))); have n3_ := Aside0.mk (below_step (by repeat (first | (with_reducible first | exact HB.out | apply below_alloc | apply pw_below_drewN | apply below_drew1) | exact HB.out)) hb); clear HO210; clear HO213; clear HB; have HO210 := n0_; have HO213 := n1_; have HO217 := n2_; have HB := n3_; clear n0_ n1_ n2_ n3_; (try clear hb); (try clear hb2); (try clear hk); (try clear hi); (try clear ho0)) | ((with_reducible refine gate_callee (f := 37) rfl ?_); refine goesL_ (some 26) rfl rfl Try.func37 (by kernel_rfl) rfl #[.slice A1 l1.length c1] rfl (by (try simp only [List.map_toArray, List.map_cons, List.map_nil]); first | done | rfl | (simp only [List.length_drop, List.length_take]; rfl)) ?_; (with_reducible refine (laws_toIntS.calls k _ _ l1 t218 _ ?side1 ?side2 A11.out).mono ?_); (case side1 => repeat (first | exact (Kd.C_below HR1.out HB.out) | (with_reducible refine Kd.C_alloc ?_ _) | (with_reducible refine Kd.C_drewN ?_ _) | (with_reducible refine Kd.C_drew ?_))); (case side2 => exact HC1.out); rintro e w27 ⟨v219, rfl, ho0, hb⟩; refine ⟨_, rfl, ?_⟩; have n0_ := Aside0.mk (Kd.R_below (by (with_reducible repeat (first | apply Kd.R_alloc | apply Kd.R_drewN | apply Kd.R_drew)); exact HO210.out) hb); have n1_ := Aside0.mk (Kd.R_elder' (by (with_reducible repeat (first | apply Kd.R_alloc | apply Kd.R_drewN | apply Kd.R_drew)); exact HO213.out) (Kd.R_base ho0) hb); have n2_ := Aside0.mk (Kd.R_below (by (with_reducible repeat (first | apply Kd.R_alloc | apply Kd.R_drewN | apply Kd.R_drew)); exact HO217.out) hb); have n3_ := Aside0.mk (Kd.R_lower (Kd.R_new' ho0 (Kd.R_lt (by (with_reducible repeat (first | apply Kd.R_alloc | apply Kd.R_drewN | apply Kd.R_drew)); exact HO213.out))) (below_size (by repeat (first | (with_reducible first | exact HB.out | apply below_alloc | apply pw_below_drewN | apply below_drew1) | exact HB.out)))); have n4_ := Aside0.mk (below_step (by repeat (first | (with_reducible first | exact HB.out | apply below_alloc | apply pw_below_drewN | apply below_drew1) | exact HB.out)) hb); clear HO210; clear HO213; clear HO217; clear HB; have HO210 := n0_; have HO213 := n1_; have HO217 := n2_; have HO220 := n3_; have HB := n4_; clear n0_ n1_ n2_ n3_ n4_; (try clear hb); (try clear hb2); (try clear hk); (try clear hi); (try clear ho0); obtain ⟨Ao28, co28, eo28⟩ := Kd.R_slice HO217.out; subst eo28; obtain ⟨Ao29, co29, eo29⟩ := Kd.R_slice HO220.out; subst eo29) | ((with_reducible refine gate_callee (f := 38) rfl ?_); refine goesL_ (some 29) rfl rfl Try.func38 (by kernel_rfl) rfl #[.slice Ao28 t215.length co28, .slice Ao29 t218.length co29] rfl (by (try simp only [List.map_toArray, List.map_cons, List.map_nil]); first | done | rfl | (simp only [List.length_drop, List.length_take]; rfl)) ?_; (with_reducible refine (impl_RealTime.calls k _ _ t215 _ _ t218 t221 _ ?side1 ?side2 ?side3 ?side4 A12.out).mono ?_); (case side1 => repeat (first | exact (Kd.R_reads' HO217.out).2.2 | (with_reducible refine Kd.C_alloc ?_ _) | (with_reducible refine Kd.C_drewN ?_ _) | (with_reducible refine Kd.C_drew ?_))); (case side2 => exact (Kd.R_reads' HO217.out).2.1); (case side3 => repeat (first | exact (Kd.R_reads' HO220.out).2.2 | (with_reducible refine Kd.C_alloc ?_ _) | (with_reducible refine Kd.C_drewN ?_ _) | (with_reducible refine Kd.C_drew ?_))); (case side4 => exact (Kd.R_reads' HO220.out).2.1); rintro e w30 ⟨rfl, hb⟩; refine ⟨_, rfl, ?_⟩; have n0_ := Aside0.mk (Kd.R_below (by (with_reducible repeat (first | apply Kd.R_alloc | apply Kd.R_drewN | apply Kd.R_drew)); exact HO210.out) hb); have n1_ := Aside0.mk (Kd.R_below (by (with_reducible repeat (first | apply Kd.R_alloc | apply Kd.R_drewN | apply Kd.R_drew)); exact HO213.out) hb); have n2_ := Aside0.mk (Kd.R_below (by (with_reducible repeat (first | apply Kd.R_alloc | apply Kd.R_drewN | apply Kd.R_drew)); exact HO217.out) hb); have n3_ := Aside0.mk (Kd.R_below (by (with_reducible repeat (first | apply Kd.R_alloc | apply Kd.R_drewN | apply Kd.R_drew)); exact HO220.out) hb); have n4_ := Aside0.mk (below_step (by repeat (first | (with_reducible first | exact HB.out | apply below_alloc | apply pw_below_drewN | apply below_drew1) | exact HB.out)) hb); clear HO210; clear HO213; clear HO217; clear HO220; clear HB; have HO210 := n0_; have HO213 := n1_; have HO217 := n2_; have HO220 := n3_; have HB := n4_; clear n0_ n1_ n2_ n3_ n4_; (try clear hb); (try clear hb2); (try clear hk); (try clear hi)) | ((with_reducible refine gate_callee (f := 36) rfl ?_); refine goesL_ (some 35) rfl rfl Try.func36 (by kernel_rfl) rfl #[.slice A0 l0.length c0] rfl (by (try simp only [List.map_toArray, List.map_cons, List.map_nil]); first | done | rfl | (simp only [List.length_drop, List.length_take]; rfl)) ?_; (with_reducible refine (laws_toResultS.calls k _ _ l0 t222 _ ?side1 ?side2 A14.out).mono ?_); (case side1 => repeat (first | exact (Kd.C_below HR0.out HB.out) | (with_reducible refine Kd.C_alloc ?_ _) | (with_reducible refine Kd.C_drewN ?_ _) | (with_reducible refine Kd.C_drew ?_))); (case side2 => exact HC0.out); rintro e w31 ⟨v223, rfl, ho0, hb⟩; refine ⟨_, rfl, ?_⟩; have n0_ := Aside0.mk (Kd.R_elder' (by (with_reducible repeat (first | apply Kd.R_alloc | apply Kd.R_drewN | apply Kd.R_drew)); exact HO210.out) (Kd.R_base ho0) hb); have n1_ := Aside0.mk (Kd.R_below (by (with_reducible repeat (first | apply Kd.R_alloc | apply Kd.R_drewN | apply Kd.R_drew)); exact HO213.out) hb); have n2_ := Aside0.mk (Kd.R_elder' (by (with_reducible repeat (first | apply Kd.R_alloc | apply Kd.R_drewN | apply Kd.R_drew)); exact HO217.out) (Kd.R_base ho0) hb); have n3_ := Aside0.mk (Kd.R_below (by (with_reducible repeat (first | apply Kd.R_alloc | apply Kd.R_drewN | apply Kd.R_drew)); exact HO220.out) hb); have n4_ := Aside0.mk (Kd.R_lower (Kd.R_new' (Kd.R_new' ho0 (Kd.R_lt (by (with_reducible repeat (first | apply Kd.R_alloc | apply Kd.R_drewN | apply Kd.R_drew)); exact HO210.out))) (Kd.R_lt (by (with_reducible repeat (first | apply Kd.R_alloc | apply Kd.R_drewN | apply Kd.R_drew)); exact HO217.out))) (below_size (by repeat (first | (with_reducible first | exact HB.out | apply below_alloc | apply pw_below_drewN | apply below_drew1) | exact HB.out)))); have n5_ := Aside0.mk (below_step (by repeat (first | (with_reducible first | exact HB.out | apply below_alloc | apply pw_below_drewN | apply below_drew1) | exact HB.out)) hb); clear HO210; clear HO213; clear HO217; clear HO220; clear HB; have HO210 := n0_; have HO213 := n1_; have HO217 := n2_; have HO220 := n3_; have HO224 := n4_; have HB := n5_; clear n0_ n1_ n2_ n3_ n4_ n5_; (try clear hb); (try clear hb2); (try clear hk); (try clear hi); (try clear ho0); obtain ⟨Ao32, co32, eo32⟩ := Kd.R_slice HO224.out; subst eo32) | ((with_reducible refine gate_callee (f := 39) rfl ?_); refine goesL_ (some 36) rfl rfl Try.func39 (by kernel_rfl) rfl #[.slice Ao28 t215.length co28, .slice Ao32 t222.length co32] rfl (by (try simp only [List.map_toArray, List.map_cons, List.map_nil]); first | done | rfl | (simp only [List.length_drop, List.length_take]; rfl)) ?_; (with_reducible refine (laws_eqResultS.calls k _ _ t215 _ _ t222 true _ ?side1 ?side2 ?side3 ?side4 A15.out).mono ?_); (case side1 => repeat (first | exact (Kd.R_reads' HO217.out).2.2 | (with_reducible refine Kd.C_alloc ?_ _) | (with_reducible refine Kd.C_drewN ?_ _) | (with_reducible refine Kd.C_drew ?_))); (case side2 => exact (Kd.R_reads' HO217.out).2.1); (case side3 => repeat (first | exact (Kd.R_reads' HO224.out).2.2 | (with_reducible refine Kd.C_alloc ?_ _) | (with_reducible refine Kd.C_drewN ?_ _) | (with_reducible refine Kd.C_drew ?_))); (case side4 => exact (Kd.R_reads' HO224.out).2.1); rintro e w33 ⟨rfl, hb⟩; refine ⟨_, rfl, ?_⟩; have n0_ := Aside0.mk (Kd.R_below (by (with_reducible repeat (first | apply Kd.R_alloc | apply Kd.R_drewN | apply Kd.R_drew)); exact HO210.out) hb); have n1_ := Aside0.mk (Kd.R_below (by (with_reducible repeat (first | apply Kd.R_alloc | apply Kd.R_drewN | apply Kd.R_drew)); exact HO213.out) hb); have n2_ := Aside0.mk (Kd.R_below (by (with_reducible repeat (first | apply Kd.R_alloc | apply Kd.R_drewN | apply Kd.R_drew)); exact HO217.out) hb); have n3_ := Aside0.mk (Kd.R_below (by (with_reducible repeat (first | apply Kd.R_alloc | apply Kd.R_drewN | apply Kd.R_drew)); exact HO220.out) hb); have n4_ := Aside0.mk (Kd.R_below (by (with_reducible repeat (first | apply Kd.R_alloc | apply Kd.R_drewN | apply Kd.R_drew)); exact HO224.out) hb); have n5_ := Aside0.mk (below_step (by repeat (first | (with_reducible first | exact HB.out | apply below_alloc | apply pw_below_drewN | apply below_drew1) | exact HB.out)) hb); clear HO210; clear HO213; clear HO217; clear HO220; clear HO224; clear HB; have HO210 := n0_; have HO213 := n1_; have HO217 := n2_; have HO220 := n3_; have HO224 := n4_; have HB := n5_; clear n0_ n1_ n2_ n3_ n4_ n5_; (try clear hb); (try clear hb2); (try clear hk); (try clear hi)) | ((with_reducible refine gate_callee (f := 37) rfl ?_); refine goesL_ (some 40) rfl rfl Try.func37 (by kernel_rfl) rfl #[.slice A1 l1.length c1] rfl (by (try simp only [List.map_toArray, List.map_cons, List.map_nil]); first | done | rfl | (simp only [List.length_drop, List.length_take]; rfl)) ?_; (with_reducible refine (laws_toIntS.calls k _ _ l1 t226 _ ?side1 ?side2 A17.out).mono ?_); (case side1 => repeat (first | exact (Kd.C_below HR1.out HB.out) | (with_reducible refine Kd.C_alloc ?_ _) | (with_reducible refine Kd.C_drewN ?_ _) | (with_reducible refine Kd.C_drew ?_))); (case side2 => exact HC1.out); rintro e w34 ⟨v227, rfl, ho0, hb⟩; refine ⟨_, rfl, ?_⟩; have n0_ := Aside0.mk (Kd.R_below (by (with_reducible repeat (first | apply Kd.R_alloc | apply Kd.R_drewN | apply Kd.R_drew)); exact HO210.out) hb); have n1_ := Aside0.mk (Kd.R_elder' (by (with_reducible repeat (first | apply Kd.R_alloc | apply Kd.R_drewN | apply Kd.R_drew)); exact HO213.out) (Kd.R_base ho0) hb); have n2_ := Aside0.mk (Kd.R_below (by (with_reducible repeat (first | apply Kd.R_alloc | apply Kd.R_drewN | apply Kd.R_drew)); exact HO217.out) hb); have n3_ := Aside0.mk (Kd.R_elder' (by (with_reducible repeat (first | apply Kd.R_alloc | apply Kd.R_drewN | apply Kd.R_drew)); exact HO220.out) (Kd.R_base ho0) hb); have n4_ := Aside0.mk (Kd.R_below (by (with_reducible repeat (first | apply Kd.R_alloc | apply Kd.R_drewN | apply Kd.R_drew)); exact HO224.out) hb); have n5_ := Aside0.mk (Kd.R_lower (Kd.R_new' (Kd.R_new' ho0 (Kd.R_lt (by (with_reducible repeat (first | apply Kd.R_alloc | apply Kd.R_drewN | apply Kd.R_drew)); exact HO213.out))) (Kd.R_lt (by (with_reducible repeat (first | apply Kd.R_alloc | apply Kd.R_drewN | apply Kd.R_drew)); exact HO220.out))) (below_size (by repeat (first | (with_reducible first | exact HB.out | apply below_alloc | apply pw_below_drewN | apply below_drew1) | exact HB.out)))); have n6_ := Aside0.mk (below_step (by repeat (first | (with_reducible first | exact HB.out | apply below_alloc | apply pw_below_drewN | apply below_drew1) | exact HB.out)) hb); clear HO210; clear HO213; clear HO217; clear HO220; clear HO224; clear HB; have HO210 := n0_; have HO213 := n1_; have HO217 := n2_; have HO220 := n3_; have HO224 := n4_; have HO228 := n5_; have HB := n6_; clear n0_ n1_ n2_ n3_ n4_ n5_ n6_; (try clear hb); (try clear hb2); (try clear hk); (try clear hi); (try clear ho0); obtain ⟨Ao35, co35, eo35⟩ := Kd.R_slice HO228.out; subst eo35) | ((with_reducible refine gate_callee (f := 40) rfl ?_); refine goesL_ (some 41) rfl rfl Try.func40 (by kernel_rfl) rfl #[.slice Ao29 t218.length co29, .slice Ao35 t226.length co35] rfl (by (try simp only [List.map_toArray, List.map_cons, List.map_nil]); first | done | rfl | (simp only [List.length_drop, List.length_take]; rfl)) ?_; (with_reducible refine (laws_eqIntS.calls k _ _ t218 _ _ t226 true _ ?side1 ?side2 ?side3 ?side4 A18.out).mono ?_); (case side1 => repeat (first | exact (Kd.R_reads' HO220.out).2.2 | (with_reducible refine Kd.C_alloc ?_ _) | (with_reducible refine Kd.C_drewN ?_ _) | (with_reducible refine Kd.C_drew ?_))); (case side2 => exact (Kd.R_reads' HO220.out).2.1); (case side3 => repeat (first | exact (Kd.R_reads' HO228.out).2.2 | (with_reducible refine Kd.C_alloc ?_ _) | (with_reducible refine Kd.C_drewN ?_ _) | (with_reducible refine Kd.C_drew ?_))); (case side4 => exact (Kd.R_reads' HO228.out).2.1); rintro e w' ⟨rfl, ⟨nd, rfl⟩⟩; refine ⟨_, rfl, ?_⟩))
            go_ret
            exact ⟨by first | rfl | (simp [errW_none, errW_some] <;> rfl) | (simp [*, errW_none, errW_some] <;> rfl) | (simp only [IntKind.wrap_u8, show ∀ n_ : Int, wrap64 (n_ % 256) = n_ % 256 from fun n_ => by unfold wrap64; omega]; rfl), by repeat (first | (with_reducible first | exact HB.out | apply below_alloc | apply pw_below_drewN | apply below_drew1) | exact HB.out)⟩
          · replace c19 := Bool.eq_false_iff.mpr c19
            subst c19
            have H1 : (some false) = some r := by rw [if_neg (show ¬ (false = true) by decide)] at H; exact H
            clear H
            have H := H1
            clear H1
            obtain rfl := Option.some.inj H
            exact absurd hrt.out (by simp)
        · replace c16 := Bool.eq_false_iff.mpr c16
          subst c16
          have H1 : (some false) = some r := by rw [if_neg (show ¬ (false = true) by decide)] at H; exact H
          clear H
          have H := H1
          clear H1
          obtain rfl := Option.some.inj H
          exact absurd hrt.out (by simp)

end Go.Proofs.Ytkejaolfbejokaa.PFnExactRealTime
