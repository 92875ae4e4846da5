-- Written by a program of this session, in the manner of the kit's print (wip/pp.py): functions and their contracts.
import Derived.Test.YtpeifepnaecjiaaPFnOrderValidx0
import Derived.Test.YtpeifepnaecjiaaPFnOrderValidx1
import Derived.Test.YtpeifepnaecjiaaPFnOrderValidx2
import Derived.Test.YtpeifepnaecjiaaPFnOrderValidx3
namespace Go.Proofs.Ytpeifepnaecjiaa.PFnOrderValid
open Go.RowKit Go.Proofs.YtpeifepnaecjiaaW.PrintWords Go.Proofs.YtpeifepnaecjiaaW.PrintLast Go.Proofs.YtpeifepnaecjiaaW.PrintMore
attribute [local go_sem] max2_int min2_int max_two min_two max_three min_three max_four min_four   -- for this text's walks alone
set_option linter.unusedVariables false
set_option linter.unusedSimpArgs false

/-! ### laws_FnOrderValid: function 11 -/
def laws_FnOrderValid.l0 : Nat → Int → List Int → Bool → List Int → Int → Option (Bool)
  | 0, _, _, _, _, _ => none
  | k + 1, x3, x4, x5, x6, x7 => if x7 ≥ 0 then (if 0 ≤ x7 then (if x7 < (x4.length : Int) then (if x6.length < 17592186044416 then (laws_FnOrderValid.l0 k x3 x4 x5 (x6 ++ [rd x4 x7]) (wrap64 (x7 - 1))) else (none)) else (none)) else (none)) else (if 0 ≤ (wrap64 ((x4.length : Int) - 1)) then (if (wrap64 ((x4.length : Int) - 1)) ≤ (x4.length : Int) then ((impl_OrderValid.f k (x4.length : Int) (x4.take ((wrap64 ((x4.length : Int) - 1)) : Int).toNat)).bind fun t185 => (if t185 = true then (some false) else ((impl_OrderValid.f k x3 x6).bind fun t186 => (if (t186 == x5) = true then ((laws_alive.f k).bind fun t187 => (some t187)) else (some false))))) else (none)) else (none))
def laws_FnOrderValid.f (k : Nat) (l0 : List Int) : Option (Bool) := if (l0.length : Int) > 1048576 then (some true) else ((spec_DrawOrderValid.f k l0).bind fun bt167 => ((impl_OrderValid.f k bt167.1 bt167.2).bind fun t171 => ((spec_OrderValid.f k bt167.1 bt167.2).bind fun t172 => (if (t171 != t172) = true then (some false) else (if (bt167.2.length : Int) = 0 then (if (t171 == (bt167.1 == 0)) = true then ((laws_alive.f k).bind fun t173 => (some t173)) else (some false)) else (laws_FnOrderValid.l0 k bt167.1 bt167.2 t171 (([] : List Int)) (wrap64 ((bt167.2.length : Int) - 1))))))))
theorem laws_FnOrderValid.mono_l : ∀ k, (∀ y0 y1 y2 y3 y4, LeO (laws_FnOrderValid.l0 k y0 y1 y2 y3 y4) (laws_FnOrderValid.l0 (k + 1) y0 y1 y2 y3 y4))
  | 0 => fun _ _ _ _ _ r h => by simp [laws_FnOrderValid.l0] at h
  | k + 1 => by
    have ih0 := laws_FnOrderValid.mono_l k
    · intro y0 y1 y2 y3 y4
      unfold laws_FnOrderValid.l0
      repeat' first
      | (with_reducible exact ih0 _ _ _ _ _)
      | (with_reducible exact impl_OrderValid.mono _ _ _)
      | (with_reducible exact laws_alive.mono _)
      | (with_reducible exact spec_DrawOrderValid.mono _ _)
      | (with_reducible exact spec_OrderValid.mono _ _ _)
      | (with_reducible exact LeO.refl _)
      | (with_reducible exact LeO.none _)
      | (with_reducible refine LeO.ite ?_ ?_)
      | (with_reducible refine LeO.bind ?_ (fun _ => ?_))
      | exact ih0 _ _ _ _ _
      | exact impl_OrderValid.mono _ _ _
      | exact laws_alive.mono _
      | exact spec_DrawOrderValid.mono _ _
      | exact spec_OrderValid.mono _ _ _
      | exact LeO.none _
      | refine LeO.ite ?_ ?_
      | refine LeO.bind ?_ (fun _ => ?_)
theorem laws_FnOrderValid.mono : ∀ a0 k, LeO (laws_FnOrderValid.f k a0) (laws_FnOrderValid.f (k + 1) a0) := by
  intro a0 k
  have ih0 := laws_FnOrderValid.mono_l k
  unfold laws_FnOrderValid.f
  repeat' first
      | (with_reducible exact ih0 _ _ _ _ _)
      | (with_reducible exact impl_OrderValid.mono _ _ _)
      | (with_reducible exact laws_alive.mono _)
      | (with_reducible exact spec_DrawOrderValid.mono _ _)
      | (with_reducible exact spec_OrderValid.mono _ _ _)
      | (with_reducible exact LeO.refl _)
      | (with_reducible exact LeO.none _)
      | (with_reducible refine LeO.ite ?_ ?_)
      | (with_reducible refine LeO.bind ?_ (fun _ => ?_))
      | exact ih0 _ _ _ _ _
      | exact impl_OrderValid.mono _ _ _
      | exact laws_alive.mono _
      | exact spec_DrawOrderValid.mono _ _
      | exact spec_OrderValid.mono _ _ _
      | exact LeO.none _
      | refine LeO.ite ?_ ?_
      | refine LeO.bind ?_ (fun _ => ?_)
set_option maxHeartbeats 8000000 in
set_option maxRecDepth 100000 in
theorem laws_FnOrderValid.calls (k : Nat) (A0 : Option Addr) (c0 : Nat) (l0 : List Int) (r : Bool) (w : World) (hr0 : Kd.C (Kd.int .u8) w A0 l0.length l0) (hc0 : l0.length ≤ c0) (h : laws_FnOrderValid.f k l0 = some r) (hrt : Aside0 (r = true)) :
    Calls Try.prog 11 #[.slice A0 l0.length c0] w fun e w' => e = .returned (.bool r) ∧ Below w.heap.size w w' := by
  have HR0 := Aside0.mk hr0
  have HC0 := Aside0.mk hc0
  clear hr0 hc0
  have HB := Aside0.mk (Below.refl w.heap.size w)
  have H : (if (l0.length : Int) > 1048576 then (some true) else ((spec_DrawOrderValid.f k l0).bind fun bt167 => ((impl_OrderValid.f k bt167.1 bt167.2).bind fun t171 => ((spec_OrderValid.f k bt167.1 bt167.2).bind fun t172 => (if (t171 != t172) = true then (some false) else (if (bt167.2.length : Int) = 0 then (if (t171 == (bt167.1 == 0)) = true then ((laws_alive.f k).bind fun t173 => (some t173)) else (some false)) else (laws_FnOrderValid.l0 k bt167.1 bt167.2 t171 (([] : List Int)) (wrap64 ((bt167.2.length : Int) - 1))))))))) = some r := h
  clear h
  by_cases c2 : (l0.length : Int) > 1048576
  · rw [if_pos c2] at H
    have c2b0 : decide (1048576 < (l0.length : Int)) = true := decide_eq_true c2
    have c2b1 : decide (1048576 < l0.length) = true := decide_eq_true (by omega)
    clear c2
    obtain rfl := Option.some.inj H
    go_enter Try.func11, Try.ntmps11
    go_wp2
    go_ret
    exact ⟨by first | rfl | (simp [errW_none, errW_some] <;> rfl) | (simp [*, errW_none, errW_some] <;> rfl) | (simp only [IntKind.wrap_u8, show ∀ n_ : Int, wrap64 (n_ % 256) = n_ % 256 from fun n_ => by unfold wrap64; omega]; rfl), by repeat (first | (with_reducible first | exact HB.out | apply below_alloc | apply pw_below_drewN | apply below_drew1) | exact HB.out)⟩
  · rw [if_neg c2] at H
    have c2b0 : decide (1048576 < (l0.length : Int)) = false := decide_eq_false c2
    have c2b1 : decide (1048576 < l0.length) = false := decide_eq_false (by omega)
    clear c2
    replace H := Option.bind_eq_some_iff.mp H
    obtain ⟨⟨t167, t168⟩, A30, H⟩ := H
    replace H : ((impl_OrderValid.f k t167 t168).bind fun t171 => ((spec_OrderValid.f k t167 t168).bind fun t172 => (if (t171 != t172) = true then (some false) else (if (t168.length : Int) = 0 then (if (t171 == (t167 == 0)) = true then ((laws_alive.f k).bind fun t173 => (some t173)) else (some false)) else (laws_FnOrderValid.l0 k t167 t168 t171 (([] : List Int)) (wrap64 ((t168.length : Int) - 1))))))) = some r := H
    have A3 := Aside0.mk A30
    clear A30
    replace H := Option.bind_eq_some_iff.mp H
    obtain ⟨t171, A40, H⟩ := H
    replace H : ((spec_OrderValid.f k t167 t168).bind fun t172 => (if (t171 != t172) = true then (some false) else (if (t168.length : Int) = 0 then (if (t171 == (t167 == 0)) = true then ((laws_alive.f k).bind fun t173 => (some t173)) else (some false)) else (laws_FnOrderValid.l0 k t167 t168 t171 (([] : List Int)) (wrap64 ((t168.length : Int) - 1)))))) = some r := H
    have A4 := Aside0.mk A40
    clear A40
    replace H := Option.bind_eq_some_iff.mp H
    obtain ⟨t172, A50, H⟩ := H
    replace H : (if (t171 != t172) = true then (some false) else (if (t168.length : Int) = 0 then (if (t171 == (t167 == 0)) = true then ((laws_alive.f k).bind fun t173 => (some t173)) else (some false)) else (laws_FnOrderValid.l0 k t167 t168 t171 (([] : List Int)) (wrap64 ((t168.length : Int) - 1))))) = some r := H
    have A5 := Aside0.mk A50
    clear A50
    by_cases c6 : (t171 != t172) = true
    · rw [if_pos c6] at H
      have c6b0 : (t171 != t172) = true := c6
      (try (have c6b1 : decide (t171 = t172) = false := by simpa using c6))
      (try (have c6b2 : (t171 == t172) = false := by simpa using c6))
      (try (have c6b3 : ¬ (t171 = t172) := by simpa using c6))
      clear c6
      obtain rfl := Option.some.inj H
      exact absurd hrt.out (by simp)
    · rw [if_neg c6] at H
      have c6b0 : (t171 != t172) = false := by simpa using c6
      (try (have c6b1 : decide (t171 = t172) = true := by simpa using c6))
      (try (have c6b2 : (t171 == t172) = true := by simpa using c6))
      clear c6
      by_cases c7 : (t168.length : Int) = 0
      · rw [if_pos c7] at H
        have c7b0 : ((t168.length : Int) == 0) = true := beq_iff_eq.mpr c7
        have c7b1 : ((t168.length : Int) != 0) = false := bne_eq_false_iff_eq.mpr c7
        clear c7
        by_cases c8 : (t171 == (t167 == 0)) = true
        · rw [if_pos c8] at H
          have c8b0 : (t171 == (t167 == 0)) = true := c8
          (try (have c8b1 : decide (t171 = (t167 == 0)) = true := by simpa using c8))
          (try (have c8b2 : (t171 == (t167 == 0)) = true := by simpa using c8))
          clear c8
          replace H := Option.bind_eq_some_iff.mp H
          obtain ⟨t173, A90, H⟩ := H
          replace H : (some t173) = some r := H
          have A9 := Aside0.mk A90
          clear A90
          obtain rfl := Option.some.inj H
          go_enter Try.func11, Try.ntmps11
          go_wp2_with (first | ((with_reducible refine gate_callee (f := 39) rfl ?_); refine goesL_ (some 13) rfl rfl Try.func39 (by kernel_rfl) rfl #[.slice A0 l0.length c0] rfl (by (try simp only [List.map_toArray, List.map_cons, List.map_nil]); first | done | rfl | (simp only [List.length_drop, List.length_take]; rfl)) ?_; (with_reducible refine (spec_DrawOrderValid.calls k _ _ l0 t167 t168 _ ?side1 ?side2 A3.out).mono ?_); (case side1 => repeat (first | exact HR0.out | (with_reducible refine Kd.C_alloc ?_ _) | (with_reducible refine Kd.C_drewN ?_ _) | (with_reducible refine Kd.C_drew ?_))); (case side2 => exact HC0.out); rintro e w10 ⟨v169, rfl, ho0, hb⟩; refine ⟨_, rfl, ?_⟩; have n0_ := Aside0.mk (Kd.R_lower ho0 (below_size (by repeat (first | (with_reducible first | exact HB.out | apply below_alloc | apply pw_below_drewN | apply below_drew1) | exact HB.out)))); have n1_ := Aside0.mk (below_step (by repeat (first | (with_reducible first | exact HB.out | apply below_alloc | apply pw_below_drewN | apply below_drew1) | exact HB.out)) hb); clear HB; have HO170 := n0_; have HB := n1_; clear n0_ n1_; (try clear hb); (try clear hb2); (try clear hk); (try clear hi); (try clear ho0); obtain ⟨Ao11, co11, eo11⟩ := Kd.R_slice HO170.out; subst eo11) | ((with_reducible refine gate_callee (f := 21) rfl ?_); refine goesL_ (some 18) rfl rfl Try.func21 (by kernel_rfl) rfl #[.int .i64 t167, .slice Ao11 t168.length co11] rfl (by (try simp only [List.map_toArray, List.map_cons, List.map_nil]); first | done | rfl | (simp only [List.length_drop, List.length_take]; rfl)) ?_; (with_reducible refine (impl_OrderValid.calls k t167 _ _ t168 t171 _ ?side1 ?side2 A4.out).mono ?_); (case side1 => repeat (first | exact (Kd.R_reads' HO170.out).2.2 | (with_reducible refine Kd.C_alloc ?_ _) | (with_reducible refine Kd.C_drewN ?_ _) | (with_reducible refine Kd.C_drew ?_))); (case side2 => exact (Kd.R_reads' HO170.out).2.1); rintro e w' ⟨rfl, ⟨nd, rfl⟩⟩; refine ⟨_, rfl, ?_⟩) | ((with_reducible refine gate_callee (f := 19) rfl ?_); refine goesL_ (some 22) rfl rfl Try.func19 (by kernel_rfl) rfl #[.int .i64 t167, .slice Ao11 t168.length co11] rfl (by (try simp only [List.map_toArray, List.map_cons, List.map_nil]); first | done | rfl | (simp only [List.length_drop, List.length_take]; rfl)) ?_; (with_reducible refine (spec_OrderValid.calls k t167 _ _ t168 t172 _ ?side1 ?side2 A5.out).mono ?_); (case side1 => repeat (first | exact (Kd.R_reads' HO170.out).2.2 | (with_reducible refine Kd.C_alloc ?_ _) | (with_reducible refine Kd.C_drewN ?_ _) | (with_reducible refine Kd.C_drew ?_))); (case side2 => exact (Kd.R_reads' HO170.out).2.1); rintro e w' ⟨rfl, ⟨nd, rfl⟩⟩; refine ⟨_, rfl, ?_⟩) | (go_at_call 32; (with_reducible refine (laws_alive.calls k  t173 _ A9.out).mono ?_); rintro e w12 ⟨rfl, hb⟩; have n0_ := Aside0.mk (Kd.R_below (by (with_reducible repeat (first | apply Kd.R_alloc | apply Kd.R_drewN | apply Kd.R_drew)); exact HO170.out) hb); have n1_ := Aside0.mk (below_step (by repeat (first | (with_reducible first | exact HB.out | apply below_alloc | apply pw_below_drewN | apply below_drew1) | exact HB.out)) hb); clear HO170; clear HB; have HO170 := n0_; have HB := n1_; clear n0_ n1_; (try clear hb); (try clear hb2); (try clear hk); (try clear hi)))
          go_ret
          exact ⟨by first | rfl | (simp [errW_none, errW_some] <;> rfl) | (simp [*, errW_none, errW_some] <;> rfl) | (simp only [IntKind.wrap_u8, show ∀ n_ : Int, wrap64 (n_ % 256) = n_ % 256 from fun n_ => by unfold wrap64; omega]; rfl), by repeat (first | (with_reducible first | exact HB.out | apply below_alloc | apply pw_below_drewN | apply below_drew1) | exact HB.out)⟩
        · rw [if_neg c8] at H
          have c8b0 : (t171 == (t167 == 0)) = false := by simpa using c8
          (try (have c8b1 : decide (t171 = (t167 == 0)) = false := by simpa using c8))
          (try (have c8b2 : (t171 == (t167 == 0)) = false := by simpa using c8))
          (try (have c8b3 : ¬ (t171 = (t167 == 0)) := by simpa using c8))
          clear c8
          obtain rfl := Option.some.inj H
          exact absurd hrt.out (by simp)
      · rw [if_neg c7] at H
        have c7b0 : ((t168.length : Int) == 0) = false := beq_eq_false_iff_ne.mpr c7
        have c7b1 : ((t168.length : Int) != 0) = true := bne_iff_ne.mpr c7
        have c7b2 : ¬ (t168 = []) := fun h_ => c7 (by rw [h_]; rfl)
        obtain ⟨y174, hy174⟩ : ∃ y_ : List Int, y_ = (([] : List Int)) := ⟨_, rfl⟩
        replace H : (laws_FnOrderValid.l0 k t167 t168 t171 y174 (wrap64 ((t168.length : Int) - 1))) = some r := by first | (rw [hy174]; with_reducible exact H) | (have H2_ := (Option.bind_some _ _).symm.trans H; rw [hy174]; with_reducible exact H2_) | (have H2_ := (Option.bind_some _ _).symm.trans H; with_reducible exact H2_) | with_reducible exact H | (rw [hy174]; exact H) | exact H
        have Ny174 := Aside0.mk hy174
        clear hy174
        have H' := Aside0.mk H
        clear H
        go_enter Try.func11, Try.ntmps11
        go_wp2_with (first | ((with_reducible refine gate_callee (f := 39) rfl ?_); refine goesL_ (some 13) rfl rfl Try.func39 (by kernel_rfl) rfl #[.slice A0 l0.length c0] rfl (by (try simp only [List.map_toArray, List.map_cons, List.map_nil]); first | done | rfl | (simp only [List.length_drop, List.length_take]; rfl)) ?_; (with_reducible refine (spec_DrawOrderValid.calls k _ _ l0 t167 t168 _ ?side1 ?side2 A3.out).mono ?_); (case side1 => repeat (first | exact HR0.out | (with_reducible refine Kd.C_alloc ?_ _) | (with_reducible refine Kd.C_drewN ?_ _) | (with_reducible refine Kd.C_drew ?_))); (case side2 => exact HC0.out); rintro e w13 ⟨v169, rfl, ho0, hb⟩; refine ⟨_, rfl, ?_⟩; have n0_ := Aside0.mk (Kd.R_lower ho0 (below_size (by repeat (first | (with_reducible first | exact HB.out | apply below_alloc | apply pw_below_drewN | apply below_drew1) | exact HB.out)))); have n1_ := Aside0.mk (below_step (by repeat (first | (with_reducible first | exact HB.out | apply below_alloc | apply pw_below_drewN | apply below_drew1) | exact HB.out)) hb); clear HB; have HO170 := n0_; have HB := n1_; clear n0_ n1_; (try clear hb); (try clear hb2); (try clear hk); (try clear hi); (try clear ho0); obtain ⟨Ao14, co14, eo14⟩ := Kd.R_slice HO170.out; subst eo14) | ((with_reducible refine gate_callee (f := 21) rfl ?_); refine goesL_ (some 18) rfl rfl Try.func21 (by kernel_rfl) rfl #[.int .i64 t167, .slice Ao14 t168.length co14] rfl (by (try simp only [List.map_toArray, List.map_cons, List.map_nil]); first | done | rfl | (simp only [List.length_drop, List.length_take]; rfl)) ?_; (with_reducible refine (impl_OrderValid.calls k t167 _ _ t168 t171 _ ?side1 ?side2 A4.out).mono ?_); (case side1 => repeat (first | exact (Kd.R_reads' HO170.out).2.2 | (with_reducible refine Kd.C_alloc ?_ _) | (with_reducible refine Kd.C_drewN ?_ _) | (with_reducible refine Kd.C_drew ?_))); (case side2 => exact (Kd.R_reads' HO170.out).2.1); rintro e w' ⟨rfl, ⟨nd, rfl⟩⟩; refine ⟨_, rfl, ?_⟩) | ((with_reducible refine gate_callee (f := 19) rfl ?_); refine goesL_ (some 22) rfl rfl Try.func19 (by kernel_rfl) rfl #[.int .i64 t167, .slice Ao14 t168.length co14] rfl (by (try simp only [List.map_toArray, List.map_cons, List.map_nil]); first | done | rfl | (simp only [List.length_drop, List.length_take]; rfl)) ?_; (with_reducible refine (spec_OrderValid.calls k t167 _ _ t168 t172 _ ?side1 ?side2 A5.out).mono ?_); (case side1 => repeat (first | exact (Kd.R_reads' HO170.out).2.2 | (with_reducible refine Kd.C_alloc ?_ _) | (with_reducible refine Kd.C_drewN ?_ _) | (with_reducible refine Kd.C_drew ?_))); (case side2 => exact (Kd.R_reads' HO170.out).2.1); rintro e w' ⟨rfl, ⟨nd, rfl⟩⟩; refine ⟨_, rfl, ?_⟩) | ((with_reducible refine gate_dst (N := 34) rfl ?_); refine Kd.R_lit (Kd.int .i64) _ 3 ?hg (N := 34) ?hd (xs := ([] : List Int)) (inner := []) (ok := fun _ => True) (okp := fun _ => True) ?hr ?hp (fun _ hk => hk) trivial (Below.refl _ _) (Nat.le_refl _) (by simp) ?_; (case hd => rfl); (case hg => rfl); (case hr => first | (go_simp; done) | (go_simp; rfl)); (case hp => exact (Reps.none _ _)); intro v175 w15 ho16 hb hg_ hnew_; clear hg_ hnew_; (first | rw [← Ny174.out] at ho16 | (simp only [Int.reduceToNat] at ho16; rw [← Ny174.out] at ho16)); have n0_ := Aside0.mk (Kd.R_elder' (by (with_reducible repeat (first | apply Kd.R_alloc | apply Kd.R_drewN | apply Kd.R_drew)); exact HO170.out) (Kd.R_base ho16) hb); have n1_ := Aside0.mk (Kd.R_lower (Kd.R_new' ho16 (Kd.R_lt (by (with_reducible repeat (first | apply Kd.R_alloc | apply Kd.R_drewN | apply Kd.R_drew)); exact HO170.out))) (below_size (by repeat (first | (with_reducible first | exact HB.out | apply below_alloc | apply pw_below_drewN | apply below_drew1) | exact HB.out)))); have n2_ := Aside0.mk (below_step (by repeat (first | (with_reducible first | exact HB.out | apply below_alloc | apply pw_below_drewN | apply below_drew1) | exact HB.out)) hb); clear HO170; clear HB; have HO170 := n0_; have HO176 := n1_; have HB := n2_; clear n0_ n1_ n2_; clear hb ho16))
        go_loopg [6, 7] k (fun kq v6 v7 w' => ∃ (x6_1 : List Int) (x7_1 : Int), v7 = .int .i64 x7_1 ∧ Aside0 (laws_FnOrderValid.l0 kq t167 t168 t171 x6_1 x7_1 = some r) ∧ Aside0 (kq ≤ k) ∧ Aside0 (Kd.R (Kd.int .i64) 3 w' w.heap.size (fun k_ => some k_ ≠ (v6 : Value).ownBlock) (.slice Ao14 t168.length co14) t168) ∧ Aside0 (Kd.R (Kd.int .i64) 3 w' w.heap.size (fun k_ => some k_ ≠ ((.slice Ao14 t168.length co14) : Value).ownBlock) v6 x6_1) ∧ Aside0 (Below w.heap.size w w'))
        case atStart => exact ⟨(y174), (wrap64 ((t168.length : Int) - 1)), (by first | rfl | (simp; done) | (simp [*]; done)), H', ⟨Nat.le_refl _⟩, ⟨by (with_reducible repeat (first | apply Kd.R_alloc | apply Kd.R_drewN | apply Kd.R_drew)); exact Kd.R_mono HO170.out (fun _ hk => hk.2)⟩, ⟨by (with_reducible repeat (first | apply Kd.R_alloc | apply Kd.R_drewN | apply Kd.R_drew)); exact Kd.R_mono HO176.out (fun _ hk => hk.2)⟩, ⟨by repeat (first | (with_reducible first | exact HB.out | apply below_alloc | apply pw_below_drewN | apply below_drew1) | exact HB.out)⟩⟩
        case round =>
          clear H'
          try clear c1
          try clear c2
          try clear c2b0
          try clear c2b1
          try clear p2
          try clear c3
          try clear c6
          try clear c6b0
          try clear c6b1
          try clear c6b2
          try clear p6
          try clear c7
          try clear c7b0
          try clear c7b1
          try clear c7b2
          try clear c8
          try clear c8b0
          try clear c8b1
          try clear c8b2
          try clear c11
          obtain ⟨x6_1, x7_1, rfl, HA, HK1, HO_4, HO_6, HB⟩ := hrel
          cases gk with
          | zero => exact absurd HA.out (by simp [laws_FnOrderValid.l0])
          | succ k1 =>
            have H := HA.out
            clear HA
            simp only [laws_FnOrderValid.l0] at H
            by_cases c17 : x7_1 ≥ 0
            · rw [if_pos c17] at H
              have c17b0 : decide (0 ≤ x7_1) = true := decide_eq_true c17
              clear c17
              by_cases c18 : 0 ≤ x7_1
              · rw [if_pos c18] at H
                have c18b0 : decide (0 ≤ x7_1) = true := decide_eq_true c18
                clear c18
                by_cases c19 : x7_1 < (t168.length : Int)
                · rw [if_pos c19] at H
                  have c19b0 : decide (x7_1 < (t168.length : Int)) = true := decide_eq_true c19
                  clear c19
                  by_cases c20 : x6_1.length < 17592186044416
                  · rw [if_pos c20] at H
                    have LMc20 := Aside0.mk c20
                    clear c20
                    obtain ⟨y178, hy178⟩ : ∃ y_ : List Int, y_ = (x6_1 ++ [rd t168 x7_1]) := ⟨_, rfl⟩
                    replace H : (laws_FnOrderValid.l0 k1 t167 t168 t171 y178 (wrap64 (x7_1 - 1))) = some r := by first | (rw [hy178]; with_reducible exact H) | (have H2_ := (Option.bind_some _ _).symm.trans H; rw [hy178]; with_reducible exact H2_) | (have H2_ := (Option.bind_some _ _).symm.trans H; with_reducible exact H2_) | with_reducible exact H | (rw [hy178]; exact H) | exact H
                    have Ny178 := Aside0.mk hy178
                    clear hy178
                    have H' := Aside0.mk H
                    clear H
                    have p177 : 0 ≤ (x7_1 : Int) := of_decide_eq_true (by first | (with_reducible assumption) | assumption)
                    have q177 : x7_1 < (t168.length : Int) := of_decide_eq_true (by first | (with_reducible assumption) | assumption)
                    obtain ⟨ad177, e177, hx177_0⟩ := Kd.at_int (Kd.R_reads' HO_4.out).2.2 x7_1 p177 q177
                    cases e177
                    replace p177 := eq_true p177
                    replace q177 := eq_true q177
                    go_wp2_with (first | ((with_reducible refine gate_builtin (b := .append) (xs := #[.tmp 42, .tmp 47]) rfl ?_); at_builtin; refine Kd.R_append (Kd.int .i64) (w0 := w) w.heap.size rfl (.tmp 42) (.tmp 47) 27 3 (.int .i64 0) 8 rfl Try.underlying27 info3 rfl (by decide) (by omega) u6 x6_1 (rd t168 x7_1) [.int .i64 (rd t168 x7_1)] (fun k_ => some k_ ≠ (.slice (some ad177) t168.length co14 : Value).ownBlock) (fun _ => False) rfl rfl ?aP (fun _ hk => hk.elim) ?aF ?aO ?aB ?aS ?aL ?_; (case aP => exact rfl); (case aB => exact (by repeat (first | (with_reducible first | exact HB.out | apply below_alloc | apply pw_below_drewN | apply below_drew1) | exact HB.out))); (case aF => exact (fun k_ hk => Kd.fresh' (Kd.R_lt (by (with_reducible repeat (first | apply Kd.R_alloc | apply Kd.R_drewN | apply Kd.R_drew)); exact HO_4.out)) k_ hk)); (case aO => exact (by (with_reducible repeat (first | apply Kd.R_alloc | apply Kd.R_drewN | apply Kd.R_drew)); exact HO_6.out)); (case aS => exact (below_size (by repeat (first | (with_reducible first | exact HB.out | apply below_alloc | apply pw_below_drewN | apply below_drew1) | exact HB.out)))); (case aL => have := LMc20.out; omega); intro v179 w21 ho hb hg hat; rw [← Ny178.out] at ho; have n0_ := Aside0.mk (Kd.R_after (ok := (fun _ => True)) (by (with_reducible repeat (first | apply Kd.R_alloc | apply Kd.R_drewN | apply Kd.R_drew)); exact Kd.R_mono HO_4.out (fun _ hk => ⟨trivial, hk⟩)) hg hat); have n1_ := Aside0.mk (hb); have n2_ := Aside0.mk (ho); clear HO_4; clear HB; clear HO_6; have HO_4 := n0_; have HB := n1_; have HO180 := n2_; clear n0_ n1_ n2_; clear ho hb hg hat))
                    go_roundg k1
                    case measure => have := HK1.out; omega
                    case rel => exact ⟨(y178), (wrap64 (x7_1 - 1)), (by first | rfl | (simp; done) | (simp [*]; done)), H', ⟨by have := HK1.out; omega⟩, ⟨by (with_reducible repeat (first | apply Kd.R_alloc | apply Kd.R_drewN | apply Kd.R_drew)); exact Kd.R_mono HO_4.out (fun _ hk => hk.2)⟩, ⟨by (with_reducible repeat (first | apply Kd.R_alloc | apply Kd.R_drewN | apply Kd.R_drew)); exact HO180.out⟩, ⟨by repeat (first | (with_reducible first | exact HB.out | apply below_alloc | apply pw_below_drewN | apply below_drew1) | exact HB.out)⟩⟩
                  · rw [if_neg c20] at H
                    exact absurd H (by simp)
                · rw [if_neg c19] at H
                  exact absurd H (by simp)
              · rw [if_neg c18] at H
                exact absurd H (by simp)
            · rw [if_neg c17] at H
              have c17b0 : decide (0 ≤ x7_1) = false := decide_eq_false c17
              clear c17
              obtain ⟨ji22, hji22⟩ : ∃ j_ : Int, (wrap64 ((t168.length : Int) - 1)) = j_ := ⟨_, rfl⟩
              replace H : (if 0 ≤ (ji22) then (if (ji22) ≤ (t168.length : Int) then ((impl_OrderValid.f k1 (t168.length : Int) (t168.take ((ji22) : Int).toNat)).bind fun t185 => (if t185 = true then (some false) else ((impl_OrderValid.f k1 t167 x6_1).bind fun t186 => (if (t186 == t171) = true then ((laws_alive.f k1).bind fun t187 => (some t187)) else (some false))))) else (none)) else (none)) = some r := by first | (rw [hji22] at H; exact H) | (simp only [hji22] at H ⊢; exact H)
              have hji22w : (IntKind.i64.wrap ((t168.length : Int) - 1)) = ji22 := (i64_w _).trans hji22
              by_cases c23 : 0 ≤ (ji22)
              · rw [if_pos c23] at H
                have c23b0 := eq_true c23
                have c23b1 : decide (0 ≤ (ji22)) = true := decide_eq_true c23
                clear c23
                by_cases c24 : (ji22) ≤ (t168.length : Int)
                · rw [if_pos c24] at H
                  have c24b0 := eq_true c24
                  have c24b1 : decide ((ji22) ≤ (t168.length : Int)) = true := decide_eq_true c24
                  clear c24
                  obtain ⟨y181, hy181⟩ : ∃ y_ : List Int, y_ = (t168.take ((ji22) : Int).toNat) := ⟨_, rfl⟩
                  replace H : ((impl_OrderValid.f k1 (t168.length : Int) y181).bind fun t185 => (if t185 = true then (some false) else ((impl_OrderValid.f k1 t167 x6_1).bind fun t186 => (if (t186 == t171) = true then ((laws_alive.f k1).bind fun t187 => (some t187)) else (some false))))) = some r := by first | (rw [hy181]; with_reducible exact H) | (have H2_ := (Option.bind_some _ _).symm.trans H; rw [hy181]; with_reducible exact H2_) | (have H2_ := (Option.bind_some _ _).symm.trans H; with_reducible exact H2_) | with_reducible exact H | (rw [hy181]; exact H) | exact H
                  have Ny181 := Aside0.mk hy181
                  clear hy181
                  replace H := Option.bind_eq_some_iff.mp H
                  obtain ⟨t185, A250, H⟩ := H
                  replace H : (if t185 = true then (some false) else ((impl_OrderValid.f k1 t167 x6_1).bind fun t186 => (if (t186 == t171) = true then ((laws_alive.f k1).bind fun t187 => (some t187)) else (some false)))) = some r := H
                  have A25 := Aside0.mk A250
                  clear A250
                  by_cases c26 : t185 = true
                  · subst c26
                    have H1 : (some false) = some r := by rw [if_pos rfl] at H; exact H
                    clear H
                    have H := H1
                    clear H1
                    obtain rfl := Option.some.inj H
                    exact absurd hrt.out (by simp)
                  · replace c26 := Bool.eq_false_iff.mpr c26
                    subst c26
                    have H1 : ((impl_OrderValid.f k1 t167 x6_1).bind fun t186 => (if (t186 == t171) = true then ((laws_alive.f k1).bind fun t187 => (some t187)) else (some false))) = some r := by rw [if_neg (show ¬ (false = true) by decide)] at H; exact H
                    clear H
                    have H := H1
                    clear H1
                    replace H := Option.bind_eq_some_iff.mp H
                    obtain ⟨t186, A270, H⟩ := H
                    replace H : (if (t186 == t171) = true then ((laws_alive.f k1).bind fun t187 => (some t187)) else (some false)) = some r := H
                    have A27 := Aside0.mk A270
                    clear A270
                    by_cases c28 : (t186 == t171) = true
                    · rw [if_pos c28] at H
                      have c28b0 : (t186 == t171) = true := c28
                      (try (have c28b1 : decide (t186 = t171) = true := by simpa using c28))
                      (try (have c28b2 : (t186 == t171) = true := by simpa using c28))
                      clear c28
                      replace H := Option.bind_eq_some_iff.mp H
                      obtain ⟨t187, A290, H⟩ := H
                      replace H : (some t187) = some r := H
                      have A29 := Aside0.mk A290
                      clear A290
                      obtain rfl := Option.some.inj H
                      have q30 : ((ji22) : Int) ≤ ((t168.length : Int) : Int) := of_decide_eq_true (by first | (with_reducible assumption) | assumption)
                      obtain ⟨i030, hi030, _, hsz30, _⟩ := info_parts info3
                      have hroom30 : t168.length ≤ co14 := (Kd.R_reads' HO_4.out).2.1
                      have hC30 : Kd.C (Kd.int .i64) _ Ao14 t168.length t168 := (Kd.R_reads' HO_4.out).2.2
                      have hcut30 := cut_to (P := Try.prog) 27 3 .i64 Try.underlying27 hi030 Ao14 t168.length co14 (ji22) (of_decide_eq_true (by first | (with_reducible assumption) | assumption)) q30 hroom30
                      have hr30 := Kd.C_take (m := ((ji22) : Int).toNat) hC30 (by omega)
                      have hy30 : y181.length = ((ji22) : Int).toNat := (by rw [Ny181.out, List.length_take]; omega)
                      rw [← Ny181.out] at hr30
                      rw [← hy30] at hcut30
                      have HR184 := Aside0.mk hr30
                      have HC184 := Aside0.mk (show y181.length ≤ co14 from by omega)
                      clear hr30 hC30 hroom30 hi030 hsz30
                      have KY30 := Aside0.mk hy30
                      clear hy30
                      have KL30 := Aside0.mk (show ((ji22) : Int).toNat ≤ t168.length from by omega)
                      replace q30 := eq_true q30
                      go_wp2_with (first | ((with_reducible refine gate_callee (f := 21) rfl ?_); refine goesL_ (some 56) rfl rfl Try.func21 (by kernel_rfl) rfl #[.int .i64 (t168.length : Int), .slice Ao14 y181.length co14] rfl (by (try simp only [List.map_toArray, List.map_cons, List.map_nil]); first | done | rfl | (simp only [List.length_drop, List.length_take]; rfl)) ?_; (with_reducible refine (impl_OrderValid.calls k1 (t168.length : Int) _ _ y181 false _ ?side1 ?side2 A25.out).mono ?_); (case side1 => repeat (first | exact (by repeat (first | (with_reducible exact HR184.out) | (with_reducible refine Kd.C_alloc ?_ _) | (with_reducible refine Kd.C_drewN ?_ _) | (with_reducible refine Kd.C_drew ?_) | exact HR184.out)) | (with_reducible refine Kd.C_alloc ?_ _) | (with_reducible refine Kd.C_drewN ?_ _) | (with_reducible refine Kd.C_drew ?_))); (case side2 => exact HC184.out); rintro e w' ⟨rfl, ⟨nd, rfl⟩⟩; refine ⟨_, rfl, ?_⟩; obtain ⟨Ao31, co31, eo31⟩ := Kd.R_slice HO_6.out; subst eo31) | (go_at_call 21; (with_reducible refine (impl_OrderValid.calls k1 t167 _ _ x6_1 t186 _ ?side1 ?side2 A27.out).mono ?_); (case side1 => repeat (first | exact (Kd.R_reads' HO_6.out).2.2 | (with_reducible refine Kd.C_alloc ?_ _) | (with_reducible refine Kd.C_drewN ?_ _) | (with_reducible refine Kd.C_drew ?_))); (case side2 => exact (Kd.R_reads' HO_6.out).2.1); rintro e w' ⟨rfl, ⟨nd, rfl⟩⟩) | (go_at_call 32; (with_reducible refine (laws_alive.calls k1  t187 _ A29.out).mono ?_); rintro e w32 ⟨rfl, hb⟩; have n0_ := Aside0.mk (Kd.R_below (by (with_reducible repeat (first | apply Kd.R_alloc | apply Kd.R_drewN | apply Kd.R_drew)); exact HO_4.out) hb); have n1_ := Aside0.mk (Kd.R_below (by (with_reducible repeat (first | apply Kd.R_alloc | apply Kd.R_drewN | apply Kd.R_drew)); exact HO_6.out) hb); have n2_ := Aside0.mk (Kd.C_below (by repeat (first | (with_reducible exact HR184.out) | (with_reducible refine Kd.C_alloc ?_ _) | (with_reducible refine Kd.C_drewN ?_ _) | (with_reducible refine Kd.C_drew ?_) | exact HR184.out)) hb); have n3_ := Aside0.mk (below_step (by repeat (first | (with_reducible first | exact HB.out | apply below_alloc | apply pw_below_drewN | apply below_drew1) | exact HB.out)) hb); clear HO_4; clear HO_6; clear HR184; clear HB; have HO_4 := n0_; have HO_6 := n1_; have HR184 := n2_; have HB := n3_; clear n0_ n1_ n2_ n3_; (try clear hb); (try clear hb2); (try clear hk); (try clear hi)))
                      go_ret
                      exact ⟨by first | rfl | (simp [errW_none, errW_some] <;> rfl) | (simp only [← hji22]; first | rfl | (simp [errW_none, errW_some] <;> rfl)) | (simp [*, errW_none, errW_some] <;> rfl) | (simp only [IntKind.wrap_u8, show ∀ n_ : Int, wrap64 (n_ % 256) = n_ % 256 from fun n_ => by unfold wrap64; omega]; rfl), by repeat (first | (with_reducible first | exact HB.out | apply below_alloc | apply pw_below_drewN | apply below_drew1) | exact HB.out)⟩
                    · rw [if_neg c28] at H
                      have c28b0 : (t186 == t171) = false := by simpa using c28
                      (try (have c28b1 : decide (t186 = t171) = false := by simpa using c28))
                      (try (have c28b2 : (t186 == t171) = false := by simpa using c28))
                      (try (have c28b3 : ¬ (t186 = t171) := by simpa using c28))
                      clear c28
                      obtain rfl := Option.some.inj H
                      exact absurd hrt.out (by simp)
                · rw [if_neg c24] at H
                  exact absurd H (by simp)
              · rw [if_neg c23] at H
                exact absurd H (by simp)

/-- THE ONE PURE STATEMENT of laws_FnOrderValid: yours. -/
def laws_FnOrderValid.Pure : Prop := ∀ (l0 : List Int), l0.length ≤ maxLen → l0.length * 1 ≤ 140737488351232 → (∀ x ∈ l0, (Lit.int .u8 x).wf = true) → ∃ k, laws_FnOrderValid.f k l0 = some true
theorem laws_FnOrderValid.walk (P : laws_FnOrderValid.Pure) (a0 : Option Addr) (len0 cap0 : Nat) (z0 : List Int) (w : World) (w0 : (a0 = none ∧ len0 = 0 ∧ cap0 = 0 ∧ z0 = []) ∨ ∃ x, a0 = some x ∧ len0 ≤ cap0 ∧ cap0 ≤ maxLen ∧ z0.length = cap0 ∧ (∀ i, i < z0.length → w.cell? (x.add i) = some (.int .u8 (z0.getD i 0))) ∧ ∀ n ∈ z0, (Lit.int .u8 n).wf = true) (y0 : len0 * 1 ≤ 140737488351232) :
    Calls Try.prog 11 #[.slice a0 len0 cap0] w fun e w' => e = .returned (.bool true) ∧ Below w.heap.size w w' := by
  obtain ⟨l0, rfl, hr0, hm0, hw0, hc0⟩ := ReadsInt.ofRowC w0
  obtain ⟨k, h⟩ := P l0 hm0 y0 hw0
  refine (laws_FnOrderValid.calls k _ _ l0 true w (Kd.C_of_reads (d := (0 : Int)) (h1 := fun _ => rfl) hr0) hc0 h ⟨rfl⟩).mono ?_
  rintro e w' ⟨rfl, hd⟩
  exact ⟨rfl, hd⟩

end Go.Proofs.Ytpeifepnaecjiaa.PFnOrderValid
