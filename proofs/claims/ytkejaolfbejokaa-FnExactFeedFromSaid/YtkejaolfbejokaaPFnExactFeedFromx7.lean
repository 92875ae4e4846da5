-- Written by a program of this session, in the manner of the kit's print (wip/pp.py): functions and their contracts.
import Derived.Test.YtkejaolfbejokaaPFnExactFeedFromx0
import Derived.Test.YtkejaolfbejokaaPFnExactFeedFromx1
import Derived.Test.YtkejaolfbejokaaPFnExactFeedFromx3
import Derived.Test.YtkejaolfbejokaaPFnExactFeedFromx4
import Derived.Test.YtkejaolfbejokaaPFnExactFeedFromx5
import Derived.Test.YtkejaolfbejokaaPFnExactFeedFromx6
namespace Go.Proofs.Ytkejaolfbejokaa.PFnExactFeedFrom
open Go.RowKit Go.Proofs.YtkejaolfbejokaaW.PrintWords Go.Proofs.YtkejaolfbejokaaW.PrintLast Go.Proofs.YtkejaolfbejokaaW.PrintMore
attribute [local go_sem] binOp_leq_str binOp_gtr_str binOp_geq_str max2_int min2_int max_two min_two max_three min_three max_four min_four   -- for this text's walks alone
set_option linter.unusedVariables false
set_option linter.unusedSimpArgs false

/-! ### laws_FnExactFeedFrom: function 5 -/
def laws_FnExactFeedFrom.j0 : Nat → List (S108) → Int → List (S110) → List (S110) → Bool → Option (Bool)
  | 0, _, _, _, _, _ => none
  | k + 1, x0, x1, x6, x8, x46 => if x46 = true then (some false) else ((laws_markChangeS.f k x8 1).bind fun bt187 => ((laws_heldChangeS.f k bt187.2 1).bind fun t189 => (if t189 < 0 then (some false) else (if t189 = bt187.1 then ((laws_toChangeS.f k x0).bind fun t190 => ((impl_FeedFrom.f k t190 x1).bind fun t193 => ((laws_eqChangeS.f k t193 x6).bind fun t196 => (if t196 = true then ((laws_heldChangeS.f k bt187.2 1).bind fun t197 => (if t197 < 0 then (some false) else (if t197 = bt187.1 then (some true) else (some false)))) else (some false))))) else (some false)))))
def laws_FnExactFeedFrom.f (k : Nat) (l0 : List (S108)) (a1 : Int) : Option (Bool) := (laws_szChangeS.f k l0 1048576).bind fun t166 => (if t166 < 0 then (some true) else ((laws_toChangeS.f k l0).bind fun t167 => ((spec_FeedFrom.f k t167 a1).bind fun t170 => ((laws_toChangeS.f k l0).bind fun t173 => ((impl_FeedFrom.f k t173 a1).bind fun t176 => ((laws_eqChangeS.f k t176 t170).bind fun t179 => (if t179 = true then ((laws_toChangeS.f k l0).bind fun t180 => ((laws_eqChangeS.f k t173 t180).bind fun t183 => (if t183 = true then ((laws_markChangeS.f k t173 1).bind fun bt184 => (if bt184.1 < 0 then (laws_FnExactFeedFrom.j0 k l0 a1 t170 t176 true) else ((laws_eqChangeS.f k t176 t170).bind fun t186 => (laws_FnExactFeedFrom.j0 k l0 a1 t170 t176 (!t186))))) else (some false)))) else (some false))))))))
theorem laws_FnExactFeedFrom.mono_l : ∀ k, (∀ y0 y1 y2 y3 y4, LeO (laws_FnExactFeedFrom.j0 k y0 y1 y2 y3 y4) (laws_FnExactFeedFrom.j0 (k + 1) y0 y1 y2 y3 y4))
  | 0 => fun _ _ _ _ _ r h => by simp [laws_FnExactFeedFrom.j0] at h
  | k + 1 => by
    have ih0 := laws_FnExactFeedFrom.mono_l k
    · intro y0 y1 y2 y3 y4
      unfold laws_FnExactFeedFrom.j0
      repeat' first
      | (with_reducible exact ih0 _ _ _ _ _)
      | (with_reducible exact impl_FeedFrom.mono _ _ _)
      | (with_reducible exact laws_eqChangeS.mono _ _ _)
      | (with_reducible exact laws_heldChangeS.mono _ _ _)
      | (with_reducible exact laws_markChangeS.mono _ _ _)
      | (with_reducible exact laws_szChangeS.mono _ _ _)
      | (with_reducible exact laws_toChangeS.mono _ _)
      | (with_reducible exact spec_FeedFrom.mono _ _ _)
      | (with_reducible exact LeO.refl _)
      | (with_reducible exact LeO.none _)
      | (with_reducible refine LeO.ite ?_ ?_)
      | (with_reducible refine LeO.bind ?_ (fun _ => ?_))
      | exact ih0 _ _ _ _ _
      | exact impl_FeedFrom.mono _ _ _
      | exact laws_eqChangeS.mono _ _ _
      | exact laws_heldChangeS.mono _ _ _
      | exact laws_markChangeS.mono _ _ _
      | exact laws_szChangeS.mono _ _ _
      | exact laws_toChangeS.mono _ _
      | exact spec_FeedFrom.mono _ _ _
      | exact LeO.none _
      | refine LeO.ite ?_ ?_
      | refine LeO.bind ?_ (fun _ => ?_)
theorem laws_FnExactFeedFrom.mono : ∀ a0 a1 k, LeO (laws_FnExactFeedFrom.f k a0 a1) (laws_FnExactFeedFrom.f (k + 1) a0 a1) := by
  intro a0 a1 k
  have ih0 := laws_FnExactFeedFrom.mono_l k
  unfold laws_FnExactFeedFrom.f
  repeat' first
      | (with_reducible exact ih0 _ _ _ _ _)
      | (with_reducible exact impl_FeedFrom.mono _ _ _)
      | (with_reducible exact laws_eqChangeS.mono _ _ _)
      | (with_reducible exact laws_heldChangeS.mono _ _ _)
      | (with_reducible exact laws_markChangeS.mono _ _ _)
      | (with_reducible exact laws_szChangeS.mono _ _ _)
      | (with_reducible exact laws_toChangeS.mono _ _)
      | (with_reducible exact spec_FeedFrom.mono _ _ _)
      | (with_reducible exact LeO.refl _)
      | (with_reducible exact LeO.none _)
      | (with_reducible refine LeO.ite ?_ ?_)
      | (with_reducible refine LeO.bind ?_ (fun _ => ?_))
      | exact ih0 _ _ _ _ _
      | exact impl_FeedFrom.mono _ _ _
      | exact laws_eqChangeS.mono _ _ _
      | exact laws_heldChangeS.mono _ _ _
      | exact laws_markChangeS.mono _ _ _
      | exact laws_szChangeS.mono _ _ _
      | exact laws_toChangeS.mono _ _
      | exact spec_FeedFrom.mono _ _ _
      | exact LeO.none _
      | refine LeO.ite ?_ ?_
      | refine LeO.bind ?_ (fun _ => ?_)
set_option maxHeartbeats 8000000 in
set_option maxRecDepth 100000 in
theorem laws_FnExactFeedFrom.calls (k : Nat) (A0 : Option Addr) (c0 : Nat) (l0 : List (S108)) (a1 : Int) (r : Bool) (w : World) (hr0 : Kd.C k108 w A0 l0.length l0) (hc0 : l0.length ≤ c0) (h : laws_FnExactFeedFrom.f k l0 a1 = some r) (hrt : Aside0 (r = true)) :
    Calls Try.prog 5 #[.slice A0 l0.length c0, .int .i64 a1] w fun e w' => e = .returned (.bool r) ∧ Below w.heap.size w w' := by
  have HR0 := Aside0.mk hr0
  have HC0 := Aside0.mk hc0
  clear hr0 hc0
  have HB := Aside0.mk (Below.refl w.heap.size w)
  have H : ((laws_szChangeS.f k l0 1048576).bind fun t166 => (if t166 < 0 then (some true) else ((laws_toChangeS.f k l0).bind fun t167 => ((spec_FeedFrom.f k t167 a1).bind fun t170 => ((laws_toChangeS.f k l0).bind fun t173 => ((impl_FeedFrom.f k t173 a1).bind fun t176 => ((laws_eqChangeS.f k t176 t170).bind fun t179 => (if t179 = true then ((laws_toChangeS.f k l0).bind fun t180 => ((laws_eqChangeS.f k t173 t180).bind fun t183 => (if t183 = true then ((laws_markChangeS.f k t173 1).bind fun bt184 => (if bt184.1 < 0 then (laws_FnExactFeedFrom.j0 k l0 a1 t170 t176 true) else ((laws_eqChangeS.f k t176 t170).bind fun t186 => (laws_FnExactFeedFrom.j0 k l0 a1 t170 t176 (!t186))))) else (some false)))) else (some false))))))))) = some r := h
  clear h
  replace H := Option.bind_eq_some_iff.mp H
  obtain ⟨t166, A30, H⟩ := H
  replace H : (if t166 < 0 then (some true) else ((laws_toChangeS.f k l0).bind fun t167 => ((spec_FeedFrom.f k t167 a1).bind fun t170 => ((laws_toChangeS.f k l0).bind fun t173 => ((impl_FeedFrom.f k t173 a1).bind fun t176 => ((laws_eqChangeS.f k t176 t170).bind fun t179 => (if t179 = true then ((laws_toChangeS.f k l0).bind fun t180 => ((laws_eqChangeS.f k t173 t180).bind fun t183 => (if t183 = true then ((laws_markChangeS.f k t173 1).bind fun bt184 => (if bt184.1 < 0 then (laws_FnExactFeedFrom.j0 k l0 a1 t170 t176 true) else ((laws_eqChangeS.f k t176 t170).bind fun t186 => (laws_FnExactFeedFrom.j0 k l0 a1 t170 t176 (!t186))))) else (some false)))) else (some false)))))))) = some r := H
  have A3 := Aside0.mk A30
  clear A30
  by_cases c4 : t166 < 0
  · rw [if_pos c4] at H
    have c4b0 : decide (t166 < 0) = true := decide_eq_true c4
    clear c4
    obtain rfl := Option.some.inj H
    go_enter Try.func5, Try.ntmps5
    go_wp2_with (first | ((with_reducible refine gate_callee (f := 23) rfl ?_); refine goesL_ (some 15) rfl rfl Try.func23 (by kernel_rfl) rfl #[.slice A0 l0.length c0, .int .i64 1048576] rfl (by (try simp only [List.map_toArray, List.map_cons, List.map_nil]); first | done | rfl | (simp only [List.length_drop, List.length_take]; rfl)) ?_; (with_reducible refine (laws_szChangeS.calls k _ _ l0 1048576 t166 _ ?side1 ?side2 A3.out).mono ?_); (case side1 => repeat (first | exact HR0.out | (with_reducible refine Kd.C_alloc ?_ _) | (with_reducible refine Kd.C_drewN ?_ _) | (with_reducible refine Kd.C_drew ?_))); (case side2 => exact HC0.out); rintro e w5 ⟨rfl, hb⟩; refine ⟨_, rfl, ?_⟩; have n0_ := Aside0.mk (below_step (by repeat (first | (with_reducible first | exact HB.out | apply below_alloc | apply pw_below_drewN | apply below_drew1) | exact HB.out)) hb); clear HB; have HB := n0_; clear n0_; (try clear hb); (try clear hb2); (try clear hk); (try clear hi)))
    go_ret
    exact ⟨by first | rfl | (simp [errW_none, errW_some] <;> rfl) | (simp [*, errW_none, errW_some] <;> rfl) | (simp only [IntKind.wrap_u8, show ∀ n_ : Int, wrap64 (n_ % 256) = n_ % 256 from fun n_ => by unfold wrap64; omega]; rfl), by repeat (first | (with_reducible first | exact HB.out | apply below_alloc | apply pw_below_drewN | apply below_drew1) | exact HB.out)⟩
  · rw [if_neg c4] at H
    have c4b0 : decide (t166 < 0) = false := decide_eq_false c4
    clear c4
    replace H := Option.bind_eq_some_iff.mp H
    obtain ⟨t167, A60, H⟩ := H
    replace H : ((spec_FeedFrom.f k t167 a1).bind fun t170 => ((laws_toChangeS.f k l0).bind fun t173 => ((impl_FeedFrom.f k t173 a1).bind fun t176 => ((laws_eqChangeS.f k t176 t170).bind fun t179 => (if t179 = true then ((laws_toChangeS.f k l0).bind fun t180 => ((laws_eqChangeS.f k t173 t180).bind fun t183 => (if t183 = true then ((laws_markChangeS.f k t173 1).bind fun bt184 => (if bt184.1 < 0 then (laws_FnExactFeedFrom.j0 k l0 a1 t170 t176 true) else ((laws_eqChangeS.f k t176 t170).bind fun t186 => (laws_FnExactFeedFrom.j0 k l0 a1 t170 t176 (!t186))))) else (some false)))) else (some false)))))) = some r := H
    have A6 := Aside0.mk A60
    clear A60
    replace H := Option.bind_eq_some_iff.mp H
    obtain ⟨t170, A70, H⟩ := H
    replace H : ((laws_toChangeS.f k l0).bind fun t173 => ((impl_FeedFrom.f k t173 a1).bind fun t176 => ((laws_eqChangeS.f k t176 t170).bind fun t179 => (if t179 = true then ((laws_toChangeS.f k l0).bind fun t180 => ((laws_eqChangeS.f k t173 t180).bind fun t183 => (if t183 = true then ((laws_markChangeS.f k t173 1).bind fun bt184 => (if bt184.1 < 0 then (laws_FnExactFeedFrom.j0 k l0 a1 t170 t176 true) else ((laws_eqChangeS.f k t176 t170).bind fun t186 => (laws_FnExactFeedFrom.j0 k l0 a1 t170 t176 (!t186))))) else (some false)))) else (some false))))) = some r := H
    have A7 := Aside0.mk A70
    clear A70
    replace H := Option.bind_eq_some_iff.mp H
    obtain ⟨t173, A80, H⟩ := H
    replace H : ((impl_FeedFrom.f k t173 a1).bind fun t176 => ((laws_eqChangeS.f k t176 t170).bind fun t179 => (if t179 = true then ((laws_toChangeS.f k l0).bind fun t180 => ((laws_eqChangeS.f k t173 t180).bind fun t183 => (if t183 = true then ((laws_markChangeS.f k t173 1).bind fun bt184 => (if bt184.1 < 0 then (laws_FnExactFeedFrom.j0 k l0 a1 t170 t176 true) else ((laws_eqChangeS.f k t176 t170).bind fun t186 => (laws_FnExactFeedFrom.j0 k l0 a1 t170 t176 (!t186))))) else (some false)))) else (some false)))) = some r := H
    have A8 := Aside0.mk A80
    clear A80
    replace H := Option.bind_eq_some_iff.mp H
    obtain ⟨t176, A90, H⟩ := H
    replace H : ((laws_eqChangeS.f k t176 t170).bind fun t179 => (if t179 = true then ((laws_toChangeS.f k l0).bind fun t180 => ((laws_eqChangeS.f k t173 t180).bind fun t183 => (if t183 = true then ((laws_markChangeS.f k t173 1).bind fun bt184 => (if bt184.1 < 0 then (laws_FnExactFeedFrom.j0 k l0 a1 t170 t176 true) else ((laws_eqChangeS.f k t176 t170).bind fun t186 => (laws_FnExactFeedFrom.j0 k l0 a1 t170 t176 (!t186))))) else (some false)))) else (some false))) = some r := H
    have A9 := Aside0.mk A90
    clear A90
    replace H := Option.bind_eq_some_iff.mp H
    obtain ⟨t179, A100, H⟩ := H
    replace H : (if t179 = true then ((laws_toChangeS.f k l0).bind fun t180 => ((laws_eqChangeS.f k t173 t180).bind fun t183 => (if t183 = true then ((laws_markChangeS.f k t173 1).bind fun bt184 => (if bt184.1 < 0 then (laws_FnExactFeedFrom.j0 k l0 a1 t170 t176 true) else ((laws_eqChangeS.f k t176 t170).bind fun t186 => (laws_FnExactFeedFrom.j0 k l0 a1 t170 t176 (!t186))))) else (some false)))) else (some false)) = some r := H
    have A10 := Aside0.mk A100
    clear A100
    by_cases c11 : t179 = true
    · subst c11
      have H1 : ((laws_toChangeS.f k l0).bind fun t180 => ((laws_eqChangeS.f k t173 t180).bind fun t183 => (if t183 = true then ((laws_markChangeS.f k t173 1).bind fun bt184 => (if bt184.1 < 0 then (laws_FnExactFeedFrom.j0 k l0 a1 t170 t176 true) else ((laws_eqChangeS.f k t176 t170).bind fun t186 => (laws_FnExactFeedFrom.j0 k l0 a1 t170 t176 (!t186))))) else (some false)))) = some r := by rw [if_pos rfl] at H; exact H
      clear H
      have H := H1
      clear H1
      replace H := Option.bind_eq_some_iff.mp H
      obtain ⟨t180, A120, H⟩ := H
      replace H : ((laws_eqChangeS.f k t173 t180).bind fun t183 => (if t183 = true then ((laws_markChangeS.f k t173 1).bind fun bt184 => (if bt184.1 < 0 then (laws_FnExactFeedFrom.j0 k l0 a1 t170 t176 true) else ((laws_eqChangeS.f k t176 t170).bind fun t186 => (laws_FnExactFeedFrom.j0 k l0 a1 t170 t176 (!t186))))) else (some false))) = some r := H
      have A12 := Aside0.mk A120
      clear A120
      replace H := Option.bind_eq_some_iff.mp H
      obtain ⟨t183, A130, H⟩ := H
      replace H : (if t183 = true then ((laws_markChangeS.f k t173 1).bind fun bt184 => (if bt184.1 < 0 then (laws_FnExactFeedFrom.j0 k l0 a1 t170 t176 true) else ((laws_eqChangeS.f k t176 t170).bind fun t186 => (laws_FnExactFeedFrom.j0 k l0 a1 t170 t176 (!t186))))) else (some false)) = some r := H
      have A13 := Aside0.mk A130
      clear A130
      by_cases c14 : t183 = true
      · subst c14
        have H1 : ((laws_markChangeS.f k t173 1).bind fun bt184 => (if bt184.1 < 0 then (laws_FnExactFeedFrom.j0 k l0 a1 t170 t176 true) else ((laws_eqChangeS.f k t176 t170).bind fun t186 => (laws_FnExactFeedFrom.j0 k l0 a1 t170 t176 (!t186))))) = some r := by rw [if_pos rfl] at H; exact H
        clear H
        have H := H1
        clear H1
        replace H := Option.bind_eq_some_iff.mp H
        obtain ⟨⟨t184, t185⟩, A150, H⟩ := H
        replace H : (if t184 < 0 then (laws_FnExactFeedFrom.j0 k l0 a1 t170 t176 true) else ((laws_eqChangeS.f k t176 t170).bind fun t186 => (laws_FnExactFeedFrom.j0 k l0 a1 t170 t176 (!t186)))) = some r := H
        have A15 := Aside0.mk A150
        clear A150
        have HC16 := Aside0.mk H
        clear H
        go_enter Try.func5, Try.ntmps5
        go_upto_region 14 with (first | ((with_reducible refine gate_callee (f := 23) rfl ?_); refine goesL_ (some 15) rfl rfl Try.func23 (by kernel_rfl) rfl #[.slice A0 l0.length c0, .int .i64 1048576] rfl (by (try simp only [List.map_toArray, List.map_cons, List.map_nil]); first | done | rfl | (simp only [List.length_drop, List.length_take]; rfl)) ?_; (with_reducible refine (laws_szChangeS.calls k _ _ l0 1048576 t166 _ ?side1 ?side2 A3.out).mono ?_); (case side1 => repeat (first | exact HR0.out | (with_reducible refine Kd.C_alloc ?_ _) | (with_reducible refine Kd.C_drewN ?_ _) | (with_reducible refine Kd.C_drew ?_))); (case side2 => exact HC0.out); rintro e w17 ⟨rfl, hb⟩; refine ⟨_, rfl, ?_⟩; have n0_ := Aside0.mk (below_step (by repeat (first | (with_reducible first | exact HB.out | apply below_alloc | apply pw_below_drewN | apply below_drew1) | exact HB.out)) hb); clear HB; have HB := n0_; clear n0_; (try clear hb); (try clear hb2); (try clear hk); (try clear hi)) | ((with_reducible refine gate_callee (f := 25) rfl ?_); refine goesL_ (some 19) rfl rfl Try.func25 (by kernel_rfl) rfl #[.slice A0 l0.length c0] rfl (by (try simp only [List.map_toArray, List.map_cons, List.map_nil]); first | done | rfl | (simp only [List.length_drop, List.length_take]; rfl)) ?_; (with_reducible refine (laws_toChangeS.calls k _ _ l0 t167 _ ?side1 ?side2 A6.out).mono ?_); (case side1 => repeat (first | exact (Kd.C_below HR0.out HB.out) | (with_reducible refine Kd.C_alloc ?_ _) | (with_reducible refine Kd.C_drewN ?_ _) | (with_reducible refine Kd.C_drew ?_))); (case side2 => exact HC0.out); rintro e w18 ⟨v168, rfl, ho0, hb⟩; refine ⟨_, rfl, ?_⟩; have n0_ := Aside0.mk (Kd.R_lower ho0 (below_size (by repeat (first | (with_reducible first | exact HB.out | apply below_alloc | apply pw_below_drewN | apply below_drew1) | exact HB.out)))); have n1_ := Aside0.mk (below_step (by repeat (first | (with_reducible first | exact HB.out | apply below_alloc | apply pw_below_drewN | apply below_drew1) | exact HB.out)) hb); clear HB; have HO169 := n0_; have HB := n1_; clear n0_ n1_; (try clear hb); (try clear hb2); (try clear hk); (try clear hi); (try clear ho0); obtain ⟨Ao19, co19, eo19⟩ := Kd.R_slice HO169.out; subst eo19) | ((with_reducible refine gate_callee (f := 24) rfl ?_); refine goesL_ (some 21) rfl rfl Try.func24 (by kernel_rfl) rfl #[.slice Ao19 t167.length co19, .int .i64 a1] rfl (by (try simp only [List.map_toArray, List.map_cons, List.map_nil]); first | done | rfl | (simp only [List.length_drop, List.length_take]; rfl)) ?_; (with_reducible refine (spec_FeedFrom.calls k _ _ t167 a1 t170 _ ?side1 ?side2 A7.out).mono ?_); (case side1 => repeat (first | exact (Kd.R_reads' HO169.out).2.2 | (with_reducible refine Kd.C_alloc ?_ _) | (with_reducible refine Kd.C_drewN ?_ _) | (with_reducible refine Kd.C_drew ?_))); (case side2 => exact (Kd.R_reads' HO169.out).2.1); rintro e w20 ⟨v171, rfl, ho0, hb⟩; refine ⟨_, rfl, ?_⟩; have n0_ := Aside0.mk (Kd.R_elder' (by (with_reducible repeat (first | apply Kd.R_alloc | apply Kd.R_drewN | apply Kd.R_drew)); exact HO169.out) (Kd.R_base ho0) hb); have n1_ := Aside0.mk (Kd.R_lower (Kd.R_new' ho0 (Kd.R_lt (by (with_reducible repeat (first | apply Kd.R_alloc | apply Kd.R_drewN | apply Kd.R_drew)); exact HO169.out))) (below_size (by repeat (first | (with_reducible first | exact HB.out | apply below_alloc | apply pw_below_drewN | apply below_drew1) | exact HB.out)))); have n2_ := Aside0.mk (below_step (by repeat (first | (with_reducible first | exact HB.out | apply below_alloc | apply pw_below_drewN | apply below_drew1) | exact HB.out)) hb); clear HO169; clear HB; have HO169 := n0_; have HO172 := n1_; have HB := n2_; clear n0_ n1_ n2_; (try clear hb); (try clear hb2); (try clear hk); (try clear hi); (try clear ho0)) | ((with_reducible refine gate_callee (f := 25) rfl ?_); refine goesL_ (some 23) rfl rfl Try.func25 (by kernel_rfl) rfl #[.slice A0 l0.length c0] rfl (by (try simp only [List.map_toArray, List.map_cons, List.map_nil]); first | done | rfl | (simp only [List.length_drop, List.length_take]; rfl)) ?_; (with_reducible refine (laws_toChangeS.calls k _ _ l0 t173 _ ?side1 ?side2 A8.out).mono ?_); (case side1 => repeat (first | exact (Kd.C_below HR0.out HB.out) | (with_reducible refine Kd.C_alloc ?_ _) | (with_reducible refine Kd.C_drewN ?_ _) | (with_reducible refine Kd.C_drew ?_))); (case side2 => exact HC0.out); rintro e w21 ⟨v174, rfl, ho0, hb⟩; refine ⟨_, rfl, ?_⟩; have n0_ := Aside0.mk (Kd.R_elder' (by (with_reducible repeat (first | apply Kd.R_alloc | apply Kd.R_drewN | apply Kd.R_drew)); exact HO169.out) (Kd.R_base ho0) hb); have n1_ := Aside0.mk (Kd.R_elder' (by (with_reducible repeat (first | apply Kd.R_alloc | apply Kd.R_drewN | apply Kd.R_drew)); exact HO172.out) (Kd.R_base ho0) hb); have n2_ := Aside0.mk (Kd.R_lower (Kd.R_new' (Kd.R_new' ho0 (Kd.R_lt (by (with_reducible repeat (first | apply Kd.R_alloc | apply Kd.R_drewN | apply Kd.R_drew)); exact HO169.out))) (Kd.R_lt (by (with_reducible repeat (first | apply Kd.R_alloc | apply Kd.R_drewN | apply Kd.R_drew)); exact HO172.out))) (below_size (by repeat (first | (with_reducible first | exact HB.out | apply below_alloc | apply pw_below_drewN | apply below_drew1) | exact HB.out)))); have n3_ := Aside0.mk (below_step (by repeat (first | (with_reducible first | exact HB.out | apply below_alloc | apply pw_below_drewN | apply below_drew1) | exact HB.out)) hb); clear HO169; clear HO172; clear HB; have HO169 := n0_; have HO172 := n1_; have HO175 := n2_; have HB := n3_; clear n0_ n1_ n2_ n3_; (try clear hb); (try clear hb2); (try clear hk); (try clear hi); (try clear ho0); obtain ⟨Ao22, co22, eo22⟩ := Kd.R_slice HO175.out; subst eo22) | ((with_reducible refine gate_callee (f := 26) rfl ?_); refine goesL_ (some 26) rfl rfl Try.func26 (by kernel_rfl) rfl #[.slice Ao22 t173.length co22, .int .i64 a1] rfl (by (try simp only [List.map_toArray, List.map_cons, List.map_nil]); first | done | rfl | (simp only [List.length_drop, List.length_take]; rfl)) ?_; (with_reducible refine (impl_FeedFrom.calls k _ _ t173 a1 t176 _ ?side1 ?side2 A9.out).mono ?_); (case side1 => repeat (first | exact (Kd.R_reads' HO175.out).2.2 | (with_reducible refine Kd.C_alloc ?_ _) | (with_reducible refine Kd.C_drewN ?_ _) | (with_reducible refine Kd.C_drew ?_))); (case side2 => exact (Kd.R_reads' HO175.out).2.1); rintro e w23 ⟨v177, rfl, ho0, hb⟩; refine ⟨_, rfl, ?_⟩; have n0_ := Aside0.mk (Kd.R_elder' (by (with_reducible repeat (first | apply Kd.R_alloc | apply Kd.R_drewN | apply Kd.R_drew)); exact HO169.out) (Kd.R_base ho0) hb); have n1_ := Aside0.mk (Kd.R_elder' (by (with_reducible repeat (first | apply Kd.R_alloc | apply Kd.R_drewN | apply Kd.R_drew)); exact HO172.out) (Kd.R_base ho0) hb); have n2_ := Aside0.mk (Kd.R_elder' (by (with_reducible repeat (first | apply Kd.R_alloc | apply Kd.R_drewN | apply Kd.R_drew)); exact HO175.out) (Kd.R_base ho0) hb); have n3_ := Aside0.mk (Kd.R_lower (Kd.R_new' (Kd.R_new' (Kd.R_new' ho0 (Kd.R_lt (by (with_reducible repeat (first | apply Kd.R_alloc | apply Kd.R_drewN | apply Kd.R_drew)); exact HO169.out))) (Kd.R_lt (by (with_reducible repeat (first | apply Kd.R_alloc | apply Kd.R_drewN | apply Kd.R_drew)); exact HO172.out))) (Kd.R_lt (by (with_reducible repeat (first | apply Kd.R_alloc | apply Kd.R_drewN | apply Kd.R_drew)); exact HO175.out))) (below_size (by repeat (first | (with_reducible first | exact HB.out | apply below_alloc | apply pw_below_drewN | apply below_drew1) | exact HB.out)))); have n4_ := Aside0.mk (below_step (by repeat (first | (with_reducible first | exact HB.out | apply below_alloc | apply pw_below_drewN | apply below_drew1) | exact HB.out)) hb); clear HO169; clear HO172; clear HO175; clear HB; have HO169 := n0_; have HO172 := n1_; have HO175 := n2_; have HO178 := n3_; have HB := n4_; clear n0_ n1_ n2_ n3_ n4_; (try clear hb); (try clear hb2); (try clear hk); (try clear hi); (try clear ho0); obtain ⟨Ao24, co24, eo24⟩ := Kd.R_slice HO178.out; subst eo24; obtain ⟨Ao25, co25, eo25⟩ := Kd.R_slice HO172.out; subst eo25) | ((with_reducible refine gate_callee (f := 27) rfl ?_); refine goesL_ (some 29) rfl rfl Try.func27 (by kernel_rfl) rfl #[.slice Ao24 t176.length co24, .slice Ao25 t170.length co25] rfl (by (try simp only [List.map_toArray, List.map_cons, List.map_nil]); first | done | rfl | (simp only [List.length_drop, List.length_take]; rfl)) ?_; (with_reducible refine (laws_eqChangeS.calls k _ _ t176 _ _ t170 true _ ?side1 ?side2 ?side3 ?side4 A10.out).mono ?_); (case side1 => repeat (first | exact (Kd.R_reads' HO178.out).2.2 | (with_reducible refine Kd.C_alloc ?_ _) | (with_reducible refine Kd.C_drewN ?_ _) | (with_reducible refine Kd.C_drew ?_))); (case side2 => exact (Kd.R_reads' HO178.out).2.1); (case side3 => repeat (first | exact (Kd.R_reads' HO172.out).2.2 | (with_reducible refine Kd.C_alloc ?_ _) | (with_reducible refine Kd.C_drewN ?_ _) | (with_reducible refine Kd.C_drew ?_))); (case side4 => exact (Kd.R_reads' HO172.out).2.1); rintro e w26 ⟨rfl, hb⟩; refine ⟨_, rfl, ?_⟩; have n0_ := Aside0.mk (Kd.R_below (by (with_reducible repeat (first | apply Kd.R_alloc | apply Kd.R_drewN | apply Kd.R_drew)); exact HO169.out) hb); have n1_ := Aside0.mk (Kd.R_below (by (with_reducible repeat (first | apply Kd.R_alloc | apply Kd.R_drewN | apply Kd.R_drew)); exact HO172.out) hb); have n2_ := Aside0.mk (Kd.R_below (by (with_reducible repeat (first | apply Kd.R_alloc | apply Kd.R_drewN | apply Kd.R_drew)); exact HO175.out) hb); have n3_ := Aside0.mk (Kd.R_below (by (with_reducible repeat (first | apply Kd.R_alloc | apply Kd.R_drewN | apply Kd.R_drew)); exact HO178.out) hb); have n4_ := Aside0.mk (below_step (by repeat (first | (with_reducible first | exact HB.out | apply below_alloc | apply pw_below_drewN | apply below_drew1) | exact HB.out)) hb); clear HO169; clear HO172; clear HO175; clear HO178; clear HB; have HO169 := n0_; have HO172 := n1_; have HO175 := n2_; have HO178 := n3_; have HB := n4_; clear n0_ n1_ n2_ n3_ n4_; (try clear hb); (try clear hb2); (try clear hk); (try clear hi)) | ((with_reducible refine gate_callee (f := 25) rfl ?_); refine goesL_ (some 33) rfl rfl Try.func25 (by kernel_rfl) rfl #[.slice A0 l0.length c0] rfl (by (try simp only [List.map_toArray, List.map_cons, List.map_nil]); first | done | rfl | (simp only [List.length_drop, List.length_take]; rfl)) ?_; (with_reducible refine (laws_toChangeS.calls k _ _ l0 t180 _ ?side1 ?side2 A12.out).mono ?_); (case side1 => repeat (first | exact (Kd.C_below HR0.out HB.out) | (with_reducible refine Kd.C_alloc ?_ _) | (with_reducible refine Kd.C_drewN ?_ _) | (with_reducible refine Kd.C_drew ?_))); (case side2 => exact HC0.out); rintro e w27 ⟨v181, rfl, ho0, hb⟩; refine ⟨_, rfl, ?_⟩; have n0_ := Aside0.mk (Kd.R_elder' (by (with_reducible repeat (first | apply Kd.R_alloc | apply Kd.R_drewN | apply Kd.R_drew)); exact HO169.out) (Kd.R_base ho0) hb); have n1_ := Aside0.mk (Kd.R_elder' (by (with_reducible repeat (first | apply Kd.R_alloc | apply Kd.R_drewN | apply Kd.R_drew)); exact HO172.out) (Kd.R_base ho0) hb); have n2_ := Aside0.mk (Kd.R_elder' (by (with_reducible repeat (first | apply Kd.R_alloc | apply Kd.R_drewN | apply Kd.R_drew)); exact HO175.out) (Kd.R_base ho0) hb); have n3_ := Aside0.mk (Kd.R_elder' (by (with_reducible repeat (first | apply Kd.R_alloc | apply Kd.R_drewN | apply Kd.R_drew)); exact HO178.out) (Kd.R_base ho0) hb); have n4_ := Aside0.mk (Kd.R_lower (Kd.R_new' (Kd.R_new' (Kd.R_new' (Kd.R_new' ho0 (Kd.R_lt (by (with_reducible repeat (first | apply Kd.R_alloc | apply Kd.R_drewN | apply Kd.R_drew)); exact HO169.out))) (Kd.R_lt (by (with_reducible repeat (first | apply Kd.R_alloc | apply Kd.R_drewN | apply Kd.R_drew)); exact HO172.out))) (Kd.R_lt (by (with_reducible repeat (first | apply Kd.R_alloc | apply Kd.R_drewN | apply Kd.R_drew)); exact HO175.out))) (Kd.R_lt (by (with_reducible repeat (first | apply Kd.R_alloc | apply Kd.R_drewN | apply Kd.R_drew)); exact HO178.out))) (below_size (by repeat (first | (with_reducible first | exact HB.out | apply below_alloc | apply pw_below_drewN | apply below_drew1) | exact HB.out)))); have n5_ := Aside0.mk (below_step (by repeat (first | (with_reducible first | exact HB.out | apply below_alloc | apply pw_below_drewN | apply below_drew1) | exact HB.out)) hb); clear HO169; clear HO172; clear HO175; clear HO178; clear HB; have HO169 := n0_; have HO172 := n1_; have HO175 := n2_; have HO178 := n3_; have HO182 := n4_; have HB := n5_; clear n0_ n1_ n2_ n3_ n4_ n5_; (try clear hb); (try clear hb2); (try clear hk); (try clear hi); (try clear ho0); obtain ⟨Ao28, co28, eo28⟩ := Kd.R_slice HO182.out; subst eo28) | ((with_reducible refine gate_callee (f := 27) rfl ?_); refine goesL_ (some 34) rfl rfl Try.func27 (by kernel_rfl) rfl #[.slice Ao22 t173.length co22, .slice Ao28 t180.length co28] rfl (by (try simp only [List.map_toArray, List.map_cons, List.map_nil]); first | done | rfl | (simp only [List.length_drop, List.length_take]; rfl)) ?_; (with_reducible refine (laws_eqChangeS.calls k _ _ t173 _ _ t180 true _ ?side1 ?side2 ?side3 ?side4 A13.out).mono ?_); (case side1 => repeat (first | exact (Kd.R_reads' HO175.out).2.2 | (with_reducible refine Kd.C_alloc ?_ _) | (with_reducible refine Kd.C_drewN ?_ _) | (with_reducible refine Kd.C_drew ?_))); (case side2 => exact (Kd.R_reads' HO175.out).2.1); (case side3 => repeat (first | exact (Kd.R_reads' HO182.out).2.2 | (with_reducible refine Kd.C_alloc ?_ _) | (with_reducible refine Kd.C_drewN ?_ _) | (with_reducible refine Kd.C_drew ?_))); (case side4 => exact (Kd.R_reads' HO182.out).2.1); rintro e w29 ⟨rfl, hb⟩; refine ⟨_, rfl, ?_⟩; have n0_ := Aside0.mk (Kd.R_below (by (with_reducible repeat (first | apply Kd.R_alloc | apply Kd.R_drewN | apply Kd.R_drew)); exact HO169.out) hb); have n1_ := Aside0.mk (Kd.R_below (by (with_reducible repeat (first | apply Kd.R_alloc | apply Kd.R_drewN | apply Kd.R_drew)); exact HO172.out) hb); have n2_ := Aside0.mk (Kd.R_below (by (with_reducible repeat (first | apply Kd.R_alloc | apply Kd.R_drewN | apply Kd.R_drew)); exact HO175.out) hb); have n3_ := Aside0.mk (Kd.R_below (by (with_reducible repeat (first | apply Kd.R_alloc | apply Kd.R_drewN | apply Kd.R_drew)); exact HO178.out) hb); have n4_ := Aside0.mk (Kd.R_below (by (with_reducible repeat (first | apply Kd.R_alloc | apply Kd.R_drewN | apply Kd.R_drew)); exact HO182.out) hb); have n5_ := Aside0.mk (below_step (by repeat (first | (with_reducible first | exact HB.out | apply below_alloc | apply pw_below_drewN | apply below_drew1) | exact HB.out)) hb); clear HO169; clear HO172; clear HO175; clear HO178; clear HO182; clear HB; have HO169 := n0_; have HO172 := n1_; have HO175 := n2_; have HO178 := n3_; have HO182 := n4_; have HB := n5_; clear n0_ n1_ n2_ n3_ n4_ n5_; (try clear hb); (try clear hb2); (try clear hk); (try clear hi)) | ((with_reducible refine gate_callee (f := 28) rfl ?_); refine goesL_ (some 38) rfl rfl Try.func28 (by kernel_rfl) rfl #[.slice Ao22 t173.length co22, .int .i64 1] rfl (by (try simp only [List.map_toArray, List.map_cons, List.map_nil]); first | done | rfl | (simp only [List.length_drop, List.length_take]; rfl)) ?_; (with_reducible refine (laws_markChangeS.calls k (fun k_ => some k_ = (.slice Ao22 t173.length co22 : Value).ownBlock) (.slice Ao22 t173.length co22) t173 1 t184 t185 w _ ?side1 ?side2 A15.out).mono ?_); (case side1 => repeat (first | (with_reducible first | exact HB.out | apply below_alloc | apply pw_below_drewN | apply below_drew1) | exact HB.out)); (case side2 => exact Kd.R_tight rfl HO175.out); rintro e w30 ⟨rfl, hy0, hb, hkp⟩; refine ⟨_, rfl, ?_⟩; have n0_ := Aside0.mk (Kd.R_mono (ok' := fun k_ => some k_ ≠ (.slice Ao25 t170.length co25 : Value).ownBlock ∧ some k_ ≠ (.slice Ao22 t173.length co22 : Value).ownBlock ∧ some k_ ≠ (.slice Ao24 t176.length co24 : Value).ownBlock ∧ some k_ ≠ (.slice Ao28 t180.length co28 : Value).ownBlock) (Kd.R_keptB (HO169.out) hkp (fun k_ hk_ hs_ => (hk_.1.1.2) hs_)) (fun k_ hk_ => ⟨hk_.1.1.1.1.2, hk_.1.1.1.2, hk_.1.1.2, hk_.1.2⟩)); have n1_ := Aside0.mk (Kd.R_mono (ok' := fun k_ => some k_ ≠ (.slice Ao19 t167.length co19 : Value).ownBlock ∧ some k_ ≠ (.slice Ao22 t173.length co22 : Value).ownBlock ∧ some k_ ≠ (.slice Ao24 t176.length co24 : Value).ownBlock ∧ some k_ ≠ (.slice Ao28 t180.length co28 : Value).ownBlock) (Kd.R_keptB (HO172.out) hkp (fun k_ hk_ hs_ => (hk_.1.1.2) hs_)) (fun k_ hk_ => ⟨hk_.1.1.1.1.2, hk_.1.1.1.2, hk_.1.1.2, hk_.1.2⟩)); have n2_ := Aside0.mk (Kd.R_reok rfl hy0 (fun k_ e_ => HO175.out.1 k_ e_)); have n3_ := Aside0.mk (Kd.R_mono (ok' := fun k_ => some k_ ≠ (.slice Ao19 t167.length co19 : Value).ownBlock ∧ some k_ ≠ (.slice Ao25 t170.length co25 : Value).ownBlock ∧ some k_ ≠ (.slice Ao22 t173.length co22 : Value).ownBlock ∧ some k_ ≠ (.slice Ao28 t180.length co28 : Value).ownBlock) (Kd.R_keptB (HO178.out) hkp (fun k_ hk_ hs_ => (hk_.1.2) hs_)) (fun k_ hk_ => ⟨hk_.1.1.1.1.2, hk_.1.1.1.2, hk_.1.1.2, hk_.1.2⟩)); have n4_ := Aside0.mk (Kd.R_mono (ok' := fun k_ => some k_ ≠ (.slice Ao19 t167.length co19 : Value).ownBlock ∧ some k_ ≠ (.slice Ao25 t170.length co25 : Value).ownBlock ∧ some k_ ≠ (.slice Ao22 t173.length co22 : Value).ownBlock ∧ some k_ ≠ (.slice Ao24 t176.length co24 : Value).ownBlock) (Kd.R_keptB (HO182.out) hkp (fun k_ hk_ hs_ => (hk_.1.2) hs_)) (fun k_ hk_ => ⟨hk_.1.1.1.1.2, hk_.1.1.1.2, hk_.1.1.2, hk_.1.2⟩)); have n5_ := Aside0.mk (hb); clear HO169; clear HO172; clear HO175; clear HO178; clear HO182; clear HB; have HO169 := n0_; have HO172 := n1_; have HO175 := n2_; have HO178 := n3_; have HO182 := n4_; have HB := n5_; clear n0_ n1_ n2_ n3_ n4_ n5_; (try clear hb); (try clear hkp); (try clear hy0)))
        (try simp only [Act.put, List.setIfInBounds_toArray, List.set_cons_zero, List.set_cons_succ])
        go_cut [46] (fun v46 wc => ∃ (kq : Nat) (x46_15 : Bool), v46 = .bool x46_15 ∧ Aside0 (laws_FnExactFeedFrom.j0 kq l0 a1 t170 t176 x46_15 = some r) ∧ Aside0 (kq ≤ k) ∧ Aside0 (Kd.R k110 110 wc w.heap.size (fun k_ => some k_ ≠ ((.slice Ao24 t176.length co24) : Value).ownBlock) (.slice Ao25 t170.length co25) t170) ∧ Aside0 (Kd.R k110 110 wc w.heap.size (fun k_ => some k_ ≠ ((.slice Ao25 t170.length co25) : Value).ownBlock) (.slice Ao24 t176.length co24) t176) ∧ Aside0 (Below w.heap.size w wc))
        case first =>
          have H := HC16.out
          clear HC16
          by_cases c31 : t184 < 0
          · rw [if_pos c31] at H
            have c31b0 : decide (t184 < 0) = true := decide_eq_true c31
            clear c31
            (first | rw [c31b0] | (simp only [i64_w, i32_w]; rw [c31b0]) | skip)
            have H' := Aside0.mk H
            clear H
            go_wp2
            go_meet
            case rel => exact ⟨_, (true), (by first | rfl | (simp; done) | (simp [*]; done) | (simp [bne_nil_, beq_nil_]; done)), H', ⟨by first | omega | exact Nat.le_refl _⟩, ⟨by (with_reducible repeat (first | apply Kd.R_alloc | apply Kd.R_drewN | apply Kd.R_drew)); exact Kd.R_mono HO172.out (fun _ hk => hk.2.2.1)⟩, ⟨by (with_reducible repeat (first | apply Kd.R_alloc | apply Kd.R_drewN | apply Kd.R_drew)); exact Kd.R_mono HO178.out (fun _ hk => hk.2.1)⟩, ⟨by repeat (first | (with_reducible first | exact HB.out | apply below_alloc | apply pw_below_drewN | apply below_drew1) | exact HB.out)⟩⟩
          · rw [if_neg c31] at H
            have c31b0 : decide (t184 < 0) = false := decide_eq_false c31
            clear c31
            (first | rw [c31b0] | (simp only [i64_w, i32_w]; rw [c31b0]) | skip)
            replace H := Option.bind_eq_some_iff.mp H
            obtain ⟨t186, A320, H⟩ := H
            replace H : (laws_FnExactFeedFrom.j0 k l0 a1 t170 t176 (!t186)) = some r := H
            have A32 := Aside0.mk A320
            clear A320
            have H' := Aside0.mk H
            clear H
            go_wp2_with (first | (go_at_call 27; (with_reducible refine (laws_eqChangeS.calls k _ _ t176 _ _ t170 t186 _ ?side1 ?side2 ?side3 ?side4 A32.out).mono ?_); (case side1 => repeat (first | exact (Kd.R_reads' HO178.out).2.2 | (with_reducible refine Kd.C_alloc ?_ _) | (with_reducible refine Kd.C_drewN ?_ _) | (with_reducible refine Kd.C_drew ?_))); (case side2 => exact (Kd.R_reads' HO178.out).2.1); (case side3 => repeat (first | exact (Kd.R_reads' HO172.out).2.2 | (with_reducible refine Kd.C_alloc ?_ _) | (with_reducible refine Kd.C_drewN ?_ _) | (with_reducible refine Kd.C_drew ?_))); (case side4 => exact (Kd.R_reads' HO172.out).2.1); rintro e w33 ⟨rfl, hb⟩; have n0_ := Aside0.mk (Kd.R_below (by (with_reducible repeat (first | apply Kd.R_alloc | apply Kd.R_drewN | apply Kd.R_drew)); exact HO169.out) hb); have n1_ := Aside0.mk (Kd.R_below (by (with_reducible repeat (first | apply Kd.R_alloc | apply Kd.R_drewN | apply Kd.R_drew)); exact HO172.out) hb); have n2_ := Aside0.mk (Kd.R_below (by (with_reducible repeat (first | apply Kd.R_alloc | apply Kd.R_drewN | apply Kd.R_drew)); exact HO175.out) hb); have n3_ := Aside0.mk (Kd.R_below (by (with_reducible repeat (first | apply Kd.R_alloc | apply Kd.R_drewN | apply Kd.R_drew)); exact HO178.out) hb); have n4_ := Aside0.mk (Kd.R_below (by (with_reducible repeat (first | apply Kd.R_alloc | apply Kd.R_drewN | apply Kd.R_drew)); exact HO182.out) hb); have n5_ := Aside0.mk (below_step (by repeat (first | (with_reducible first | exact HB.out | apply below_alloc | apply pw_below_drewN | apply below_drew1) | exact HB.out)) hb); clear HO169; clear HO172; clear HO175; clear HO178; clear HO182; clear HB; have HO169 := n0_; have HO172 := n1_; have HO175 := n2_; have HO178 := n3_; have HO182 := n4_; have HB := n5_; clear n0_ n1_ n2_ n3_ n4_ n5_; (try clear hb); (try clear hb2); (try clear hk); (try clear hi)))
            go_meet
            case rel => exact ⟨_, (!t186), (by first | rfl | (simp; done) | (simp [*]; done) | (simp [bne_nil_, beq_nil_]; done)), H', ⟨by first | omega | exact Nat.le_refl _⟩, ⟨by (with_reducible repeat (first | apply Kd.R_alloc | apply Kd.R_drewN | apply Kd.R_drew)); exact Kd.R_mono HO172.out (fun _ hk => hk.2.2.1)⟩, ⟨by (with_reducible repeat (first | apply Kd.R_alloc | apply Kd.R_drewN | apply Kd.R_drew)); exact Kd.R_mono HO178.out (fun _ hk => hk.2.1)⟩, ⟨by repeat (first | (with_reducible first | exact HB.out | apply below_alloc | apply pw_below_drewN | apply below_drew1) | exact HB.out)⟩⟩
        case rest =>
          clear HC16
          try clear c1
          try clear c2
          try clear p2
          try clear c3
          try clear c4
          try clear c4b0
          try clear c5
          try clear p6
          try clear c11
          try clear c14
          try clear c23
          try clear c24
          try clear c25
          try clear c26
          try clear c27
          try clear c28
          try clear c31
          try clear c31b0
          obtain ⟨kq, x46_15, rfl, HA, HJ15, HO_6, HO_8, HB⟩ := hcut
          cases kq with
          | zero => exact absurd HA.out (by simp [laws_FnExactFeedFrom.j0])
          | succ kj15 =>
            have H := HA.out
            clear HA
            simp only [laws_FnExactFeedFrom.j0] at H
            by_cases c34 : x46_15 = true
            · subst c34
              have H1 : (some false) = some r := by rw [if_pos rfl] at H; exact H
              clear H
              have H := H1
              clear H1
              obtain rfl := Option.some.inj H
              exact absurd hrt.out (by simp)
            · replace c34 := Bool.eq_false_iff.mpr c34
              subst c34
              have H1 : ((laws_markChangeS.f kj15 t176 1).bind fun bt187 => ((laws_heldChangeS.f kj15 bt187.2 1).bind fun t189 => (if t189 < 0 then (some false) else (if t189 = bt187.1 then ((laws_toChangeS.f kj15 l0).bind fun t190 => ((impl_FeedFrom.f kj15 t190 a1).bind fun t193 => ((laws_eqChangeS.f kj15 t193 t170).bind fun t196 => (if t196 = true then ((laws_heldChangeS.f kj15 bt187.2 1).bind fun t197 => (if t197 < 0 then (some false) else (if t197 = bt187.1 then (some true) else (some false)))) else (some false))))) else (some false))))) = some r := by rw [if_neg (show ¬ (false = true) by decide)] at H; exact H
              clear H
              have H := H1
              clear H1
              replace H := Option.bind_eq_some_iff.mp H
              obtain ⟨⟨t187, t188⟩, A350, H⟩ := H
              replace H : ((laws_heldChangeS.f kj15 t188 1).bind fun t189 => (if t189 < 0 then (some false) else (if t189 = t187 then ((laws_toChangeS.f kj15 l0).bind fun t190 => ((impl_FeedFrom.f kj15 t190 a1).bind fun t193 => ((laws_eqChangeS.f kj15 t193 t170).bind fun t196 => (if t196 = true then ((laws_heldChangeS.f kj15 t188 1).bind fun t197 => (if t197 < 0 then (some false) else (if t197 = t187 then (some true) else (some false)))) else (some false))))) else (some false)))) = some r := H
              have A35 := Aside0.mk A350
              clear A350
              replace H := Option.bind_eq_some_iff.mp H
              obtain ⟨t189, A360, H⟩ := H
              replace H : (if t189 < 0 then (some false) else (if t189 = t187 then ((laws_toChangeS.f kj15 l0).bind fun t190 => ((impl_FeedFrom.f kj15 t190 a1).bind fun t193 => ((laws_eqChangeS.f kj15 t193 t170).bind fun t196 => (if t196 = true then ((laws_heldChangeS.f kj15 t188 1).bind fun t197 => (if t197 < 0 then (some false) else (if t197 = t187 then (some true) else (some false)))) else (some false))))) else (some false))) = some r := H
              have A36 := Aside0.mk A360
              clear A360
              by_cases c37 : t189 < 0
              · rw [if_pos c37] at H
                have c37b0 : decide (t189 < 0) = true := decide_eq_true c37
                clear c37
                obtain rfl := Option.some.inj H
                exact absurd hrt.out (by simp)
              · rw [if_neg c37] at H
                have c37b0 : decide (t189 < 0) = false := decide_eq_false c37
                clear c37
                by_cases c38 : t189 = t187
                · rw [if_pos c38] at H
                  have c38b0 : (t189 == t187) = true := beq_iff_eq.mpr c38
                  have c38b1 : (t189 != t187) = false := bne_eq_false_iff_eq.mpr c38
                  clear c38
                  replace H := Option.bind_eq_some_iff.mp H
                  obtain ⟨t190, A390, H⟩ := H
                  replace H : ((impl_FeedFrom.f kj15 t190 a1).bind fun t193 => ((laws_eqChangeS.f kj15 t193 t170).bind fun t196 => (if t196 = true then ((laws_heldChangeS.f kj15 t188 1).bind fun t197 => (if t197 < 0 then (some false) else (if t197 = t187 then (some true) else (some false)))) else (some false)))) = some r := H
                  have A39 := Aside0.mk A390
                  clear A390
                  replace H := Option.bind_eq_some_iff.mp H
                  obtain ⟨t193, A400, H⟩ := H
                  replace H : ((laws_eqChangeS.f kj15 t193 t170).bind fun t196 => (if t196 = true then ((laws_heldChangeS.f kj15 t188 1).bind fun t197 => (if t197 < 0 then (some false) else (if t197 = t187 then (some true) else (some false)))) else (some false))) = some r := H
                  have A40 := Aside0.mk A400
                  clear A400
                  replace H := Option.bind_eq_some_iff.mp H
                  obtain ⟨t196, A410, H⟩ := H
                  replace H : (if t196 = true then ((laws_heldChangeS.f kj15 t188 1).bind fun t197 => (if t197 < 0 then (some false) else (if t197 = t187 then (some true) else (some false)))) else (some false)) = some r := H
                  have A41 := Aside0.mk A410
                  clear A410
                  by_cases c42 : t196 = true
                  · subst c42
                    have H1 : ((laws_heldChangeS.f kj15 t188 1).bind fun t197 => (if t197 < 0 then (some false) else (if t197 = t187 then (some true) else (some false)))) = some r := by rw [if_pos rfl] at H; exact H
                    clear H
                    have H := H1
                    clear H1
                    replace H := Option.bind_eq_some_iff.mp H
                    obtain ⟨t197, A430, H⟩ := H
                    replace H : (if t197 < 0 then (some false) else (if t197 = t187 then (some true) else (some false))) = some r := H
                    have A43 := Aside0.mk A430
                    clear A430
                    by_cases c44 : t197 < 0
                    · rw [if_pos c44] at H
                      have c44b0 : decide (t197 < 0) = true := decide_eq_true c44
                      clear c44
                      obtain rfl := Option.some.inj H
                      exact absurd hrt.out (by simp)
                    · rw [if_neg c44] at H
                      have c44b0 : decide (t197 < 0) = false := decide_eq_false c44
                      clear c44
                      by_cases c45 : t197 = t187
                      · rw [if_pos c45] at H
                        have c45b0 : (t197 == t187) = true := beq_iff_eq.mpr c45
                        have c45b1 : (t197 != t187) = false := bne_eq_false_iff_eq.mpr c45
                        clear c45
                        obtain rfl := Option.some.inj H
                        go_wp2_with (first | ((with_reducible refine gate_callee (f := 28) rfl ?_); refine goesL_ (some 49) rfl rfl Try.func28 (by kernel_rfl) rfl #[.slice Ao24 t176.length co24, .int .i64 1] rfl (by (try simp only [List.map_toArray, List.map_cons, List.map_nil]); first | done | rfl | (simp only [List.length_drop, List.length_take]; rfl)) ?_; (with_reducible refine (laws_markChangeS.calls kj15 (fun k_ => some k_ = (.slice Ao24 t176.length co24 : Value).ownBlock) (.slice Ao24 t176.length co24) t176 1 t187 t188 w _ ?side1 ?side2 A35.out).mono ?_); (case side1 => repeat (first | (with_reducible first | exact HB.out | apply below_alloc | apply pw_below_drewN | apply below_drew1) | exact HB.out)); (case side2 => exact Kd.R_tight rfl HO_8.out); rintro e w46 ⟨rfl, hy0, hb, hkp⟩; refine ⟨_, rfl, ?_⟩; have n0_ := Aside0.mk (Kd.R_mono (ok' := fun k_ => some k_ ≠ (.slice Ao24 t176.length co24 : Value).ownBlock) (Kd.R_keptB (HO_6.out) hkp (fun k_ hk_ hs_ => (hk_) hs_)) (fun k_ hk_ => hk_.1)); have n1_ := Aside0.mk (Kd.R_reok rfl hy0 (fun k_ e_ => HO_8.out.1 k_ e_)); have n2_ := Aside0.mk (hb); clear HO_6; clear HO_8; clear HB; have HO_6 := n0_; have HO_8 := n1_; have HB := n2_; clear n0_ n1_ n2_; (try clear hb); (try clear hkp); (try clear hy0)) | ((with_reducible refine gate_callee (f := 29) rfl ?_); refine goesL_ (some 52) rfl rfl Try.func29 (by kernel_rfl) rfl #[.slice Ao24 t188.length co24, .int .i64 1] rfl (by (try simp only [List.map_toArray, List.map_cons, List.map_nil]); first | done | (rw [show t188.length = t176.length from (Kd.R_reads' HO_8.out).1.symm] <;> rfl) | rfl | (simp only [List.length_drop, List.length_take]; rfl)) ?_; (with_reducible refine (laws_heldChangeS.calls kj15 _ _ t188 1 t189 _ ?side1 ?side2 A36.out).mono ?_); (case side1 => repeat (first | exact (Kd.R_reads' HO_8.out).2.2 | (with_reducible refine Kd.C_alloc ?_ _) | (with_reducible refine Kd.C_drewN ?_ _) | (with_reducible refine Kd.C_drew ?_))); (case side2 => rw [show t188.length = t176.length from (Kd.R_reads' HO_8.out).1.symm]; exact (Kd.R_reads' HO_8.out).2.1); rintro e w47 ⟨rfl, hb⟩; refine ⟨_, rfl, ?_⟩; have n0_ := Aside0.mk (Kd.R_below (by (with_reducible repeat (first | apply Kd.R_alloc | apply Kd.R_drewN | apply Kd.R_drew)); exact HO_6.out) hb); have n1_ := Aside0.mk (Kd.R_below (by (with_reducible repeat (first | apply Kd.R_alloc | apply Kd.R_drewN | apply Kd.R_drew)); exact HO_8.out) hb); have n2_ := Aside0.mk (below_step (by repeat (first | (with_reducible first | exact HB.out | apply below_alloc | apply pw_below_drewN | apply below_drew1) | exact HB.out)) hb); clear HO_6; clear HO_8; clear HB; have HO_6 := n0_; have HO_8 := n1_; have HB := n2_; clear n0_ n1_ n2_; (try clear hb); (try clear hb2); (try clear hk); (try clear hi)) | ((with_reducible refine gate_callee (f := 25) rfl ?_); refine goesL_ (some 59) rfl rfl Try.func25 (by kernel_rfl) rfl #[.slice A0 l0.length c0] rfl (by (try simp only [List.map_toArray, List.map_cons, List.map_nil]); first | done | rfl | (simp only [List.length_drop, List.length_take]; rfl)) ?_; (with_reducible refine (laws_toChangeS.calls kj15 _ _ l0 t190 _ ?side1 ?side2 A39.out).mono ?_); (case side1 => repeat (first | exact (Kd.C_below HR0.out HB.out) | (with_reducible refine Kd.C_alloc ?_ _) | (with_reducible refine Kd.C_drewN ?_ _) | (with_reducible refine Kd.C_drew ?_))); (case side2 => exact HC0.out); rintro e w48 ⟨v191, rfl, ho0, hb⟩; refine ⟨_, rfl, ?_⟩; have n0_ := Aside0.mk (Kd.R_elder' (by (with_reducible repeat (first | apply Kd.R_alloc | apply Kd.R_drewN | apply Kd.R_drew)); exact HO_6.out) (Kd.R_base ho0) hb); have n1_ := Aside0.mk (Kd.R_elder' (by (with_reducible repeat (first | apply Kd.R_alloc | apply Kd.R_drewN | apply Kd.R_drew)); exact HO_8.out) (Kd.R_base ho0) hb); have n2_ := Aside0.mk (Kd.R_lower (Kd.R_new' (Kd.R_new' ho0 (Kd.R_lt (by (with_reducible repeat (first | apply Kd.R_alloc | apply Kd.R_drewN | apply Kd.R_drew)); exact HO_6.out))) (Kd.R_lt (by (with_reducible repeat (first | apply Kd.R_alloc | apply Kd.R_drewN | apply Kd.R_drew)); exact HO_8.out))) (below_size (by repeat (first | (with_reducible first | exact HB.out | apply below_alloc | apply pw_below_drewN | apply below_drew1) | exact HB.out)))); have n3_ := Aside0.mk (below_step (by repeat (first | (with_reducible first | exact HB.out | apply below_alloc | apply pw_below_drewN | apply below_drew1) | exact HB.out)) hb); clear HO_6; clear HO_8; clear HB; have HO_6 := n0_; have HO_8 := n1_; have HO192 := n2_; have HB := n3_; clear n0_ n1_ n2_ n3_; (try clear hb); (try clear hb2); (try clear hk); (try clear hi); (try clear ho0); obtain ⟨Ao49, co49, eo49⟩ := Kd.R_slice HO192.out; subst eo49) | ((with_reducible refine gate_callee (f := 26) rfl ?_); refine goesL_ (some 61) rfl rfl Try.func26 (by kernel_rfl) rfl #[.slice Ao49 t190.length co49, .int .i64 a1] rfl (by (try simp only [List.map_toArray, List.map_cons, List.map_nil]); first | done | rfl | (simp only [List.length_drop, List.length_take]; rfl)) ?_; (with_reducible refine (impl_FeedFrom.calls kj15 _ _ t190 a1 t193 _ ?side1 ?side2 A40.out).mono ?_); (case side1 => repeat (first | exact (Kd.R_reads' HO192.out).2.2 | (with_reducible refine Kd.C_alloc ?_ _) | (with_reducible refine Kd.C_drewN ?_ _) | (with_reducible refine Kd.C_drew ?_))); (case side2 => exact (Kd.R_reads' HO192.out).2.1); rintro e w50 ⟨v194, rfl, ho0, hb⟩; refine ⟨_, rfl, ?_⟩; have n0_ := Aside0.mk (Kd.R_elder' (by (with_reducible repeat (first | apply Kd.R_alloc | apply Kd.R_drewN | apply Kd.R_drew)); exact HO_6.out) (Kd.R_base ho0) hb); have n1_ := Aside0.mk (Kd.R_elder' (by (with_reducible repeat (first | apply Kd.R_alloc | apply Kd.R_drewN | apply Kd.R_drew)); exact HO_8.out) (Kd.R_base ho0) hb); have n2_ := Aside0.mk (Kd.R_elder' (by (with_reducible repeat (first | apply Kd.R_alloc | apply Kd.R_drewN | apply Kd.R_drew)); exact HO192.out) (Kd.R_base ho0) hb); have n3_ := Aside0.mk (Kd.R_lower (Kd.R_new' (Kd.R_new' (Kd.R_new' ho0 (Kd.R_lt (by (with_reducible repeat (first | apply Kd.R_alloc | apply Kd.R_drewN | apply Kd.R_drew)); exact HO_6.out))) (Kd.R_lt (by (with_reducible repeat (first | apply Kd.R_alloc | apply Kd.R_drewN | apply Kd.R_drew)); exact HO_8.out))) (Kd.R_lt (by (with_reducible repeat (first | apply Kd.R_alloc | apply Kd.R_drewN | apply Kd.R_drew)); exact HO192.out))) (below_size (by repeat (first | (with_reducible first | exact HB.out | apply below_alloc | apply pw_below_drewN | apply below_drew1) | exact HB.out)))); have n4_ := Aside0.mk (below_step (by repeat (first | (with_reducible first | exact HB.out | apply below_alloc | apply pw_below_drewN | apply below_drew1) | exact HB.out)) hb); clear HO_6; clear HO_8; clear HO192; clear HB; have HO_6 := n0_; have HO_8 := n1_; have HO192 := n2_; have HO195 := n3_; have HB := n4_; clear n0_ n1_ n2_ n3_ n4_; (try clear hb); (try clear hb2); (try clear hk); (try clear hi); (try clear ho0); obtain ⟨Ao51, co51, eo51⟩ := Kd.R_slice HO195.out; subst eo51) | ((with_reducible refine gate_callee (f := 27) rfl ?_); refine goesL_ (some 64) rfl rfl Try.func27 (by kernel_rfl) rfl #[.slice Ao51 t193.length co51, .slice Ao25 t170.length co25] rfl (by (try simp only [List.map_toArray, List.map_cons, List.map_nil]); first | done | rfl | (simp only [List.length_drop, List.length_take]; rfl)) ?_; (with_reducible refine (laws_eqChangeS.calls kj15 _ _ t193 _ _ t170 true _ ?side1 ?side2 ?side3 ?side4 A41.out).mono ?_); (case side1 => repeat (first | exact (Kd.R_reads' HO195.out).2.2 | (with_reducible refine Kd.C_alloc ?_ _) | (with_reducible refine Kd.C_drewN ?_ _) | (with_reducible refine Kd.C_drew ?_))); (case side2 => exact (Kd.R_reads' HO195.out).2.1); (case side3 => repeat (first | exact (Kd.R_reads' HO_6.out).2.2 | (with_reducible refine Kd.C_alloc ?_ _) | (with_reducible refine Kd.C_drewN ?_ _) | (with_reducible refine Kd.C_drew ?_))); (case side4 => exact (Kd.R_reads' HO_6.out).2.1); rintro e w52 ⟨rfl, hb⟩; refine ⟨_, rfl, ?_⟩; have n0_ := Aside0.mk (Kd.R_below (by (with_reducible repeat (first | apply Kd.R_alloc | apply Kd.R_drewN | apply Kd.R_drew)); exact HO_6.out) hb); have n1_ := Aside0.mk (Kd.R_below (by (with_reducible repeat (first | apply Kd.R_alloc | apply Kd.R_drewN | apply Kd.R_drew)); exact HO_8.out) hb); have n2_ := Aside0.mk (Kd.R_below (by (with_reducible repeat (first | apply Kd.R_alloc | apply Kd.R_drewN | apply Kd.R_drew)); exact HO192.out) hb); have n3_ := Aside0.mk (Kd.R_below (by (with_reducible repeat (first | apply Kd.R_alloc | apply Kd.R_drewN | apply Kd.R_drew)); exact HO195.out) hb); have n4_ := Aside0.mk (below_step (by repeat (first | (with_reducible first | exact HB.out | apply below_alloc | apply pw_below_drewN | apply below_drew1) | exact HB.out)) hb); clear HO_6; clear HO_8; clear HO192; clear HO195; clear HB; have HO_6 := n0_; have HO_8 := n1_; have HO192 := n2_; have HO195 := n3_; have HB := n4_; clear n0_ n1_ n2_ n3_ n4_; (try clear hb); (try clear hb2); (try clear hk); (try clear hi)) | ((with_reducible refine gate_callee (f := 29) rfl ?_); refine goesL_ (some 68) rfl rfl Try.func29 (by kernel_rfl) rfl #[.slice Ao24 t188.length co24, .int .i64 1] rfl (by (try simp only [List.map_toArray, List.map_cons, List.map_nil]); first | done | (rw [show t188.length = t176.length from (Kd.R_reads' HO_8.out).1.symm] <;> rfl) | rfl | (simp only [List.length_drop, List.length_take]; rfl)) ?_; (with_reducible refine (laws_heldChangeS.calls kj15 _ _ t188 1 t197 _ ?side1 ?side2 A43.out).mono ?_); (case side1 => repeat (first | exact (Kd.R_reads' HO_8.out).2.2 | (with_reducible refine Kd.C_alloc ?_ _) | (with_reducible refine Kd.C_drewN ?_ _) | (with_reducible refine Kd.C_drew ?_))); (case side2 => rw [show t188.length = t176.length from (Kd.R_reads' HO_8.out).1.symm]; exact (Kd.R_reads' HO_8.out).2.1); rintro e w53 ⟨rfl, hb⟩; refine ⟨_, rfl, ?_⟩; have n0_ := Aside0.mk (Kd.R_below (by (with_reducible repeat (first | apply Kd.R_alloc | apply Kd.R_drewN | apply Kd.R_drew)); exact HO_6.out) hb); have n1_ := Aside0.mk (Kd.R_below (by (with_reducible repeat (first | apply Kd.R_alloc | apply Kd.R_drewN | apply Kd.R_drew)); exact HO_8.out) hb); have n2_ := Aside0.mk (Kd.R_below (by (with_reducible repeat (first | apply Kd.R_alloc | apply Kd.R_drewN | apply Kd.R_drew)); exact HO192.out) hb); have n3_ := Aside0.mk (Kd.R_below (by (with_reducible repeat (first | apply Kd.R_alloc | apply Kd.R_drewN | apply Kd.R_drew)); exact HO195.out) hb); have n4_ := Aside0.mk (below_step (by repeat (first | (with_reducible first | exact HB.out | apply below_alloc | apply pw_below_drewN | apply below_drew1) | exact HB.out)) hb); clear HO_6; clear HO_8; clear HO192; clear HO195; clear HB; have HO_6 := n0_; have HO_8 := n1_; have HO192 := n2_; have HO195 := n3_; have HB := n4_; clear n0_ n1_ n2_ n3_ n4_; (try clear hb); (try clear hb2); (try clear hk); (try clear hi)))
                        go_ret
                        exact ⟨by first | rfl | (simp [errW_none, errW_some] <;> rfl) | (simp [*, errW_none, errW_some] <;> rfl) | (simp only [IntKind.wrap_u8, show ∀ n_ : Int, wrap64 (n_ % 256) = n_ % 256 from fun n_ => by unfold wrap64; omega]; rfl), by repeat (first | (with_reducible first | exact HB.out | apply below_alloc | apply pw_below_drewN | apply below_drew1) | exact HB.out)⟩
                      · rw [if_neg c45] at H
                        have c45b0 : (t197 == t187) = false := beq_eq_false_iff_ne.mpr c45
                        have c45b1 : (t197 != t187) = true := bne_iff_ne.mpr c45
                        obtain rfl := Option.some.inj H
                        exact absurd hrt.out (by simp)
                  · replace c42 := Bool.eq_false_iff.mpr c42
                    subst c42
                    have H1 : (some false) = some r := by rw [if_neg (show ¬ (false = true) by decide)] at H; exact H
                    clear H
                    have H := H1
                    clear H1
                    obtain rfl := Option.some.inj H
                    exact absurd hrt.out (by simp)
                · rw [if_neg c38] at H
                  have c38b0 : (t189 == t187) = false := beq_eq_false_iff_ne.mpr c38
                  have c38b1 : (t189 != t187) = true := bne_iff_ne.mpr c38
                  obtain rfl := Option.some.inj H
                  exact absurd hrt.out (by simp)
      · replace c14 := Bool.eq_false_iff.mpr c14
        subst c14
        have H1 : (some false) = some r := by rw [if_neg (show ¬ (false = true) by decide)] at H; exact H
        clear H
        have H := H1
        clear H1
        obtain rfl := Option.some.inj H
        exact absurd hrt.out (by simp)
    · replace c11 := Bool.eq_false_iff.mpr c11
      subst c11
      have H1 : (some false) = some r := by rw [if_neg (show ¬ (false = true) by decide)] at H; exact H
      clear H
      have H := H1
      clear H1
      obtain rfl := Option.some.inj H
      exact absurd hrt.out (by simp)

end Go.Proofs.Ytkejaolfbejokaa.PFnExactFeedFrom
