-- Written by a program of this session, in the manner of the kit's print (wip/pp.py): functions and their contracts.
import Derived.Test.YtfeeifefmenlmaaPFnExactApplyFeedx0
import Derived.Test.YtfeeifefmenlmaaPFnExactApplyFeedx1
import Derived.Test.YtfeeifefmenlmaaPFnExactApplyFeedx5
import Derived.Test.YtfeeifefmenlmaaPFnExactApplyFeedx6
import Derived.Test.YtfeeifefmenlmaaPFnExactApplyFeedx9
import Derived.Test.YtfeeifefmenlmaaPFnExactApplyFeedx10
import Derived.Test.YtfeeifefmenlmaaPFnExactApplyFeedx11
namespace Go.Proofs.Ytfeeifefmenlmaa.PFnExactApplyFeed
open Go.RowKit Go.Proofs.YtfeeifefmenlmaaW.PrintWords Go.Proofs.YtfeeifefmenlmaaW.PrintLast Go.Proofs.YtfeeifefmenlmaaW.PrintMore
attribute [local go_sem] binOp_leq_str binOp_gtr_str binOp_geq_str max2_int min2_int max_two min_two max_three min_three max_four min_four   -- for this text's walks alone
set_option linter.unusedVariables false
set_option linter.unusedSimpArgs false

/-! ### laws_FnExactApplyFeed: function 5 -/
mutual
def laws_FnExactApplyFeed.j0 : Nat → List (S104) → List (S106) → List (S29) → Bool → List (S29) → List (S75) → List (S29) → Bool → Bool → Option (Bool)
  | 0, _, _, _, _, _, _, _, _, _ => none
  | k + 1, x0, x1, x6, x7, x8, x9, x10, x11, x53 => if x53 = true then (some false) else ((laws_toPairS.f k x0).bind fun t384 => ((laws_eqPairS.f k x8 t384).bind fun t387 => (if t387 = true then ((laws_toChangeS.f k x1).bind fun t388 => ((laws_eqChangeS.f k x9 t388).bind fun t391 => (if t391 = true then ((laws_markPairS.f k x8 1).bind fun bt392 => ((laws_markChangeS.f k x9 bt392.1).bind fun bt394 => (if bt394.1 < 0 then (laws_FnExactApplyFeed.j1 k x0 x1 x6 x7 x10 true) else ((laws_eqPairS.f k x10 x6).bind fun t396 => (if t396 = true then (laws_FnExactApplyFeed.j1 k x0 x1 x6 x7 x10 (x11 != x7)) else (laws_FnExactApplyFeed.j1 k x0 x1 x6 x7 x10 true)))))) else (some false)))) else (some false))))
def laws_FnExactApplyFeed.j1 : Nat → List (S104) → List (S106) → List (S29) → Bool → List (S29) → Bool → Option (Bool)
  | 0, _, _, _, _, _, _ => none
  | k + 1, x0, x1, x6, x7, x10, x82 => if x82 = true then (some false) else ((laws_markPairS.f k x10 1).bind fun bt397 => ((laws_heldPairS.f k bt397.2 1).bind fun t399 => (if t399 < 0 then (some false) else (if t399 = bt397.1 then ((laws_toPairS.f k x0).bind fun t400 => ((laws_toChangeS.f k x1).bind fun t403 => ((impl_ApplyFeed.f k t400 t403).bind fun bt406 => ((laws_eqPairS.f k bt406.1 x6).bind fun t410 => (if t410 = true then (laws_FnExactApplyFeed.j2 k bt397.2 bt397.1 (bt406.2 != x7)) else (laws_FnExactApplyFeed.j2 k bt397.2 bt397.1 true)))))) else (some false)))))
def laws_FnExactApplyFeed.j2 : Nat → List (S29) → Int → Bool → Option (Bool)
  | 0, _, _, _ => none
  | k + 1, x10, x13, x110 => if x110 = true then (some false) else ((laws_heldPairS.f k x10 1).bind fun t411 => (if t411 < 0 then (some false) else (if t411 = x13 then (some true) else (some false))))
end
def laws_FnExactApplyFeed.f (k : Nat) (l0 : List (S104)) (l1 : List (S106)) : Option (Bool) := (laws_szPairS.f k l0 1048576).bind fun t361 => (if t361 < 0 then (some true) else ((laws_szChangeS.f k l1 t361).bind fun t362 => (if t362 < 0 then (some true) else ((laws_toPairS.f k l0).bind fun t363 => ((laws_toChangeS.f k l1).bind fun t366 => ((spec_ApplyFeed.f k t363 t366).bind fun bt369 => ((laws_toPairS.f k l0).bind fun t373 => ((laws_toChangeS.f k l1).bind fun t376 => ((impl_ApplyFeed.f k t373 t376).bind fun bt379 => ((laws_eqPairS.f k bt379.1 bt369.1).bind fun t383 => (if t383 = true then (laws_FnExactApplyFeed.j0 k l0 l1 bt369.1 bt369.2 t373 t376 bt379.1 bt379.2 (bt379.2 != bt369.2)) else (laws_FnExactApplyFeed.j0 k l0 l1 bt369.1 bt369.2 t373 t376 bt379.1 bt379.2 true))))))))))))
theorem laws_FnExactApplyFeed.mono_l : ∀ k, (∀ y0 y1 y2 y3 y4 y5 y6 y7 y8, LeO (laws_FnExactApplyFeed.j0 k y0 y1 y2 y3 y4 y5 y6 y7 y8) (laws_FnExactApplyFeed.j0 (k + 1) y0 y1 y2 y3 y4 y5 y6 y7 y8)) ∧ (∀ y0 y1 y2 y3 y4 y5, LeO (laws_FnExactApplyFeed.j1 k y0 y1 y2 y3 y4 y5) (laws_FnExactApplyFeed.j1 (k + 1) y0 y1 y2 y3 y4 y5)) ∧ (∀ y0 y1 y2, LeO (laws_FnExactApplyFeed.j2 k y0 y1 y2) (laws_FnExactApplyFeed.j2 (k + 1) y0 y1 y2))
  | 0 => ⟨fun _ _ _ _ _ _ _ _ _ r h => by simp [laws_FnExactApplyFeed.j0] at h, fun _ _ _ _ _ _ r h => by simp [laws_FnExactApplyFeed.j1] at h, fun _ _ _ r h => by simp [laws_FnExactApplyFeed.j2] at h⟩
  | k + 1 => by
    obtain ⟨ih0, ih1, ih2⟩ := laws_FnExactApplyFeed.mono_l k
    refine ⟨?_, ?_, ?_⟩
    · intro y0 y1 y2 y3 y4 y5 y6 y7 y8
      unfold laws_FnExactApplyFeed.j0
      repeat' first
      | (with_reducible exact ih0 _ _ _ _ _ _ _ _ _)
      | (with_reducible exact ih1 _ _ _ _ _ _)
      | (with_reducible exact ih2 _ _ _)
      | (with_reducible exact impl_ApplyFeed.mono _ _ _)
      | (with_reducible exact laws_eqChangeS.mono _ _ _)
      | (with_reducible exact laws_eqPairS.mono _ _ _)
      | (with_reducible exact laws_heldPairS.mono _ _ _)
      | (with_reducible exact laws_markChangeS.mono _ _ _)
      | (with_reducible exact laws_markPairS.mono _ _ _)
      | (with_reducible exact laws_szChangeS.mono _ _ _)
      | (with_reducible exact laws_szPairS.mono _ _ _)
      | (with_reducible exact laws_toChangeS.mono _ _)
      | (with_reducible exact laws_toPairS.mono _ _)
      | (with_reducible exact spec_ApplyFeed.mono _ _ _)
      | (with_reducible exact LeO.refl _)
      | (with_reducible exact LeO.none _)
      | (with_reducible refine LeO.ite ?_ ?_)
      | (with_reducible refine LeO.bind ?_ (fun _ => ?_))
      | exact ih0 _ _ _ _ _ _ _ _ _
      | exact ih1 _ _ _ _ _ _
      | exact ih2 _ _ _
      | exact impl_ApplyFeed.mono _ _ _
      | exact laws_eqChangeS.mono _ _ _
      | exact laws_eqPairS.mono _ _ _
      | exact laws_heldPairS.mono _ _ _
      | exact laws_markChangeS.mono _ _ _
      | exact laws_markPairS.mono _ _ _
      | exact laws_szChangeS.mono _ _ _
      | exact laws_szPairS.mono _ _ _
      | exact laws_toChangeS.mono _ _
      | exact laws_toPairS.mono _ _
      | exact spec_ApplyFeed.mono _ _ _
      | exact LeO.none _
      | refine LeO.ite ?_ ?_
      | refine LeO.bind ?_ (fun _ => ?_)
    · intro y0 y1 y2 y3 y4 y5
      unfold laws_FnExactApplyFeed.j1
      repeat' first
      | (with_reducible exact ih0 _ _ _ _ _ _ _ _ _)
      | (with_reducible exact ih1 _ _ _ _ _ _)
      | (with_reducible exact ih2 _ _ _)
      | (with_reducible exact impl_ApplyFeed.mono _ _ _)
      | (with_reducible exact laws_eqChangeS.mono _ _ _)
      | (with_reducible exact laws_eqPairS.mono _ _ _)
      | (with_reducible exact laws_heldPairS.mono _ _ _)
      | (with_reducible exact laws_markChangeS.mono _ _ _)
      | (with_reducible exact laws_markPairS.mono _ _ _)
      | (with_reducible exact laws_szChangeS.mono _ _ _)
      | (with_reducible exact laws_szPairS.mono _ _ _)
      | (with_reducible exact laws_toChangeS.mono _ _)
      | (with_reducible exact laws_toPairS.mono _ _)
      | (with_reducible exact spec_ApplyFeed.mono _ _ _)
      | (with_reducible exact LeO.refl _)
      | (with_reducible exact LeO.none _)
      | (with_reducible refine LeO.ite ?_ ?_)
      | (with_reducible refine LeO.bind ?_ (fun _ => ?_))
      | exact ih0 _ _ _ _ _ _ _ _ _
      | exact ih1 _ _ _ _ _ _
      | exact ih2 _ _ _
      | exact impl_ApplyFeed.mono _ _ _
      | exact laws_eqChangeS.mono _ _ _
      | exact laws_eqPairS.mono _ _ _
      | exact laws_heldPairS.mono _ _ _
      | exact laws_markChangeS.mono _ _ _
      | exact laws_markPairS.mono _ _ _
      | exact laws_szChangeS.mono _ _ _
      | exact laws_szPairS.mono _ _ _
      | exact laws_toChangeS.mono _ _
      | exact laws_toPairS.mono _ _
      | exact spec_ApplyFeed.mono _ _ _
      | exact LeO.none _
      | refine LeO.ite ?_ ?_
      | refine LeO.bind ?_ (fun _ => ?_)
    · intro y0 y1 y2
      unfold laws_FnExactApplyFeed.j2
      repeat' first
      | (with_reducible exact ih0 _ _ _ _ _ _ _ _ _)
      | (with_reducible exact ih1 _ _ _ _ _ _)
      | (with_reducible exact ih2 _ _ _)
      | (with_reducible exact impl_ApplyFeed.mono _ _ _)
      | (with_reducible exact laws_eqChangeS.mono _ _ _)
      | (with_reducible exact laws_eqPairS.mono _ _ _)
      | (with_reducible exact laws_heldPairS.mono _ _ _)
      | (with_reducible exact laws_markChangeS.mono _ _ _)
      | (with_reducible exact laws_markPairS.mono _ _ _)
      | (with_reducible exact laws_szChangeS.mono _ _ _)
      | (with_reducible exact laws_szPairS.mono _ _ _)
      | (with_reducible exact laws_toChangeS.mono _ _)
      | (with_reducible exact laws_toPairS.mono _ _)
      | (with_reducible exact spec_ApplyFeed.mono _ _ _)
      | (with_reducible exact LeO.refl _)
      | (with_reducible exact LeO.none _)
      | (with_reducible refine LeO.ite ?_ ?_)
      | (with_reducible refine LeO.bind ?_ (fun _ => ?_))
      | exact ih0 _ _ _ _ _ _ _ _ _
      | exact ih1 _ _ _ _ _ _
      | exact ih2 _ _ _
      | exact impl_ApplyFeed.mono _ _ _
      | exact laws_eqChangeS.mono _ _ _
      | exact laws_eqPairS.mono _ _ _
      | exact laws_heldPairS.mono _ _ _
      | exact laws_markChangeS.mono _ _ _
      | exact laws_markPairS.mono _ _ _
      | exact laws_szChangeS.mono _ _ _
      | exact laws_szPairS.mono _ _ _
      | exact laws_toChangeS.mono _ _
      | exact laws_toPairS.mono _ _
      | exact spec_ApplyFeed.mono _ _ _
      | exact LeO.none _
      | refine LeO.ite ?_ ?_
      | refine LeO.bind ?_ (fun _ => ?_)
theorem laws_FnExactApplyFeed.mono : ∀ a0 a1 k, LeO (laws_FnExactApplyFeed.f k a0 a1) (laws_FnExactApplyFeed.f (k + 1) a0 a1) := by
  intro a0 a1 k
  obtain ⟨ih0, ih1, ih2⟩ := laws_FnExactApplyFeed.mono_l k
  unfold laws_FnExactApplyFeed.f
  repeat' first
      | (with_reducible exact ih0 _ _ _ _ _ _ _ _ _)
      | (with_reducible exact ih1 _ _ _ _ _ _)
      | (with_reducible exact ih2 _ _ _)
      | (with_reducible exact impl_ApplyFeed.mono _ _ _)
      | (with_reducible exact laws_eqChangeS.mono _ _ _)
      | (with_reducible exact laws_eqPairS.mono _ _ _)
      | (with_reducible exact laws_heldPairS.mono _ _ _)
      | (with_reducible exact laws_markChangeS.mono _ _ _)
      | (with_reducible exact laws_markPairS.mono _ _ _)
      | (with_reducible exact laws_szChangeS.mono _ _ _)
      | (with_reducible exact laws_szPairS.mono _ _ _)
      | (with_reducible exact laws_toChangeS.mono _ _)
      | (with_reducible exact laws_toPairS.mono _ _)
      | (with_reducible exact spec_ApplyFeed.mono _ _ _)
      | (with_reducible exact LeO.refl _)
      | (with_reducible exact LeO.none _)
      | (with_reducible refine LeO.ite ?_ ?_)
      | (with_reducible refine LeO.bind ?_ (fun _ => ?_))
      | exact ih0 _ _ _ _ _ _ _ _ _
      | exact ih1 _ _ _ _ _ _
      | exact ih2 _ _ _
      | exact impl_ApplyFeed.mono _ _ _
      | exact laws_eqChangeS.mono _ _ _
      | exact laws_eqPairS.mono _ _ _
      | exact laws_heldPairS.mono _ _ _
      | exact laws_markChangeS.mono _ _ _
      | exact laws_markPairS.mono _ _ _
      | exact laws_szChangeS.mono _ _ _
      | exact laws_szPairS.mono _ _ _
      | exact laws_toChangeS.mono _ _
      | exact laws_toPairS.mono _ _
      | exact spec_ApplyFeed.mono _ _ _
      | exact LeO.none _
      | refine LeO.ite ?_ ?_
      | refine LeO.bind ?_ (fun _ => ?_)
theorem laws_FnExactApplyFeed.s0 {P0 Q : Prop} (B0 : P0) (h : P0 → Q := by (intro b0_; repeat (first | exact (Kd.R_reads' b0_).2.2 | (with_reducible refine Kd.C_alloc ?_ _) | (with_reducible refine Kd.C_drewN ?_ _) | (with_reducible refine Kd.C_drew ?_)))) : Q := h B0
theorem laws_FnExactApplyFeed.s1 {P0 Q : Prop} (B0 : P0) (h : P0 → Q := by (intro b0_; repeat (first | (with_reducible first | exact b0_ | apply below_alloc | apply pw_below_drewN | apply below_drew1) | exact b0_))) : Q := h B0
set_option maxHeartbeats 8000000 in
set_option maxRecDepth 100000 in
theorem laws_FnExactApplyFeed.calls (k : Nat) (A0 : Option Addr) (c0 : Nat) (l0 : List (S104)) (A1 : Option Addr) (c1 : Nat) (l1 : List (S106)) (r : Bool) (w : World) (hr0 : Kd.C k104 w A0 l0.length l0) (hc0 : l0.length ≤ c0) (hr1 : Kd.C k106 w A1 l1.length l1) (hc1 : l1.length ≤ c1) (h : laws_FnExactApplyFeed.f k l0 l1 = some r) (hrt : Aside0 (r = true)) :
    Calls Try.prog 5 #[.slice A0 l0.length c0, .slice A1 l1.length c1] w fun e w' => e = .returned (.bool r) ∧ Below w.heap.size w w' := by
  have HR0 := Aside0.mk hr0
  have HC0 := Aside0.mk hc0
  clear hr0 hc0
  have HR1 := Aside0.mk hr1
  have HC1 := Aside0.mk hc1
  clear hr1 hc1
  have HB := Aside0.mk (Below.refl w.heap.size w)
  have H : ((laws_szPairS.f k l0 1048576).bind fun t361 => (if t361 < 0 then (some true) else ((laws_szChangeS.f k l1 t361).bind fun t362 => (if t362 < 0 then (some true) else ((laws_toPairS.f k l0).bind fun t363 => ((laws_toChangeS.f k l1).bind fun t366 => ((spec_ApplyFeed.f k t363 t366).bind fun bt369 => ((laws_toPairS.f k l0).bind fun t373 => ((laws_toChangeS.f k l1).bind fun t376 => ((impl_ApplyFeed.f k t373 t376).bind fun bt379 => ((laws_eqPairS.f k bt379.1 bt369.1).bind fun t383 => (if t383 = true then (laws_FnExactApplyFeed.j0 k l0 l1 bt369.1 bt369.2 t373 t376 bt379.1 bt379.2 (bt379.2 != bt369.2)) else (laws_FnExactApplyFeed.j0 k l0 l1 bt369.1 bt369.2 t373 t376 bt379.1 bt379.2 true))))))))))))) = some r := h
  clear h
  replace H := Option.bind_eq_some_iff.mp H
  obtain ⟨t361, A30, H⟩ := H
  replace H : (if t361 < 0 then (some true) else ((laws_szChangeS.f k l1 t361).bind fun t362 => (if t362 < 0 then (some true) else ((laws_toPairS.f k l0).bind fun t363 => ((laws_toChangeS.f k l1).bind fun t366 => ((spec_ApplyFeed.f k t363 t366).bind fun bt369 => ((laws_toPairS.f k l0).bind fun t373 => ((laws_toChangeS.f k l1).bind fun t376 => ((impl_ApplyFeed.f k t373 t376).bind fun bt379 => ((laws_eqPairS.f k bt379.1 bt369.1).bind fun t383 => (if t383 = true then (laws_FnExactApplyFeed.j0 k l0 l1 bt369.1 bt369.2 t373 t376 bt379.1 bt379.2 (bt379.2 != bt369.2)) else (laws_FnExactApplyFeed.j0 k l0 l1 bt369.1 bt369.2 t373 t376 bt379.1 bt379.2 true)))))))))))) = some r := H
  have A3 := Aside0.mk A30
  clear A30
  by_cases c4 : t361 < 0
  · rw [if_pos c4] at H
    have c4b0 : decide (t361 < 0) = true := decide_eq_true c4
    clear c4
    obtain rfl := Option.some.inj H
    go_enter Try.func5, Try.ntmps5
    go_wp2_with (first | ((with_reducible refine gate_callee (f := 25) rfl ?_); refine gsl (some 19) rfl Try.func25 #[.slice A0 l0.length c0, .int .i64 1048576] rfl ?_; (with_reducible refine (laws_szPairS.calls k _ _ l0 1048576 t361 _ ?side1 ?side2 A3.out).mono ?_); (case side1 => exact cc HR0.out); (case side2 => exact HC0.out); rintro e w5 ⟨rfl, hb⟩; refine ⟨_, rfl, ?_⟩; replace HB := an0 HB hb; (try clear hb); (try clear hb2); (try clear hk); (try clear hi)))
    go_ret
    exact ⟨fe, bp HB.out⟩
  · rw [if_neg c4] at H
    have c4b0 : decide (t361 < 0) = false := decide_eq_false c4
    clear c4
    replace H := Option.bind_eq_some_iff.mp H
    obtain ⟨t362, A60, H⟩ := H
    replace H : (if t362 < 0 then (some true) else ((laws_toPairS.f k l0).bind fun t363 => ((laws_toChangeS.f k l1).bind fun t366 => ((spec_ApplyFeed.f k t363 t366).bind fun bt369 => ((laws_toPairS.f k l0).bind fun t373 => ((laws_toChangeS.f k l1).bind fun t376 => ((impl_ApplyFeed.f k t373 t376).bind fun bt379 => ((laws_eqPairS.f k bt379.1 bt369.1).bind fun t383 => (if t383 = true then (laws_FnExactApplyFeed.j0 k l0 l1 bt369.1 bt369.2 t373 t376 bt379.1 bt379.2 (bt379.2 != bt369.2)) else (laws_FnExactApplyFeed.j0 k l0 l1 bt369.1 bt369.2 t373 t376 bt379.1 bt379.2 true)))))))))) = some r := H
    have A6 := Aside0.mk A60
    clear A60
    by_cases c7 : t362 < 0
    · rw [if_pos c7] at H
      have c7b0 : decide (t362 < 0) = true := decide_eq_true c7
      clear c7
      obtain rfl := Option.some.inj H
      go_enter Try.func5, Try.ntmps5
      go_wp2_with (first | ((with_reducible refine gate_callee (f := 25) rfl ?_); refine gsl (some 19) rfl Try.func25 #[.slice A0 l0.length c0, .int .i64 1048576] rfl ?_; (with_reducible refine (laws_szPairS.calls k _ _ l0 1048576 t361 _ ?side1 ?side2 A3.out).mono ?_); (case side1 => exact cc HR0.out); (case side2 => exact HC0.out); rintro e w8 ⟨rfl, hb⟩; refine ⟨_, rfl, ?_⟩; replace HB := an0 HB hb; (try clear hb); (try clear hb2); (try clear hk); (try clear hi)) | ((with_reducible refine gate_callee (f := 26) rfl ?_); refine gsl (some 24) rfl Try.func26 #[.slice A1 l1.length c1, .int .i64 t361] rfl ?_; (with_reducible refine (laws_szChangeS.calls k _ _ l1 t361 t362 _ ?side1 ?side2 A6.out).mono ?_); (case side1 => exact cc (Kd.C_below HR1.out HB.out)); (case side2 => exact HC1.out); rintro e w9 ⟨rfl, hb⟩; refine ⟨_, rfl, ?_⟩; replace HB := an0 HB hb; (try clear hb); (try clear hb2); (try clear hk); (try clear hi)))
      go_ret
      exact ⟨fe, bp HB.out⟩
    · rw [if_neg c7] at H
      have c7b0 : decide (t362 < 0) = false := decide_eq_false c7
      clear c7
      replace H := Option.bind_eq_some_iff.mp H
      obtain ⟨t363, A100, H⟩ := H
      replace H : ((laws_toChangeS.f k l1).bind fun t366 => ((spec_ApplyFeed.f k t363 t366).bind fun bt369 => ((laws_toPairS.f k l0).bind fun t373 => ((laws_toChangeS.f k l1).bind fun t376 => ((impl_ApplyFeed.f k t373 t376).bind fun bt379 => ((laws_eqPairS.f k bt379.1 bt369.1).bind fun t383 => (if t383 = true then (laws_FnExactApplyFeed.j0 k l0 l1 bt369.1 bt369.2 t373 t376 bt379.1 bt379.2 (bt379.2 != bt369.2)) else (laws_FnExactApplyFeed.j0 k l0 l1 bt369.1 bt369.2 t373 t376 bt379.1 bt379.2 true)))))))) = some r := H
      have A10 := Aside0.mk A100
      clear A100
      replace H := Option.bind_eq_some_iff.mp H
      obtain ⟨t366, A110, H⟩ := H
      replace H : ((spec_ApplyFeed.f k t363 t366).bind fun bt369 => ((laws_toPairS.f k l0).bind fun t373 => ((laws_toChangeS.f k l1).bind fun t376 => ((impl_ApplyFeed.f k t373 t376).bind fun bt379 => ((laws_eqPairS.f k bt379.1 bt369.1).bind fun t383 => (if t383 = true then (laws_FnExactApplyFeed.j0 k l0 l1 bt369.1 bt369.2 t373 t376 bt379.1 bt379.2 (bt379.2 != bt369.2)) else (laws_FnExactApplyFeed.j0 k l0 l1 bt369.1 bt369.2 t373 t376 bt379.1 bt379.2 true))))))) = some r := H
      have A11 := Aside0.mk A110
      clear A110
      replace H := Option.bind_eq_some_iff.mp H
      obtain ⟨⟨t369, t370⟩, A120, H⟩ := H
      replace H : ((laws_toPairS.f k l0).bind fun t373 => ((laws_toChangeS.f k l1).bind fun t376 => ((impl_ApplyFeed.f k t373 t376).bind fun bt379 => ((laws_eqPairS.f k bt379.1 t369).bind fun t383 => (if t383 = true then (laws_FnExactApplyFeed.j0 k l0 l1 t369 t370 t373 t376 bt379.1 bt379.2 (bt379.2 != t370)) else (laws_FnExactApplyFeed.j0 k l0 l1 t369 t370 t373 t376 bt379.1 bt379.2 true)))))) = some r := H
      have A12 := Aside0.mk A120
      clear A120
      replace H := Option.bind_eq_some_iff.mp H
      obtain ⟨t373, A130, H⟩ := H
      replace H : ((laws_toChangeS.f k l1).bind fun t376 => ((impl_ApplyFeed.f k t373 t376).bind fun bt379 => ((laws_eqPairS.f k bt379.1 t369).bind fun t383 => (if t383 = true then (laws_FnExactApplyFeed.j0 k l0 l1 t369 t370 t373 t376 bt379.1 bt379.2 (bt379.2 != t370)) else (laws_FnExactApplyFeed.j0 k l0 l1 t369 t370 t373 t376 bt379.1 bt379.2 true))))) = some r := H
      have A13 := Aside0.mk A130
      clear A130
      replace H := Option.bind_eq_some_iff.mp H
      obtain ⟨t376, A140, H⟩ := H
      replace H : ((impl_ApplyFeed.f k t373 t376).bind fun bt379 => ((laws_eqPairS.f k bt379.1 t369).bind fun t383 => (if t383 = true then (laws_FnExactApplyFeed.j0 k l0 l1 t369 t370 t373 t376 bt379.1 bt379.2 (bt379.2 != t370)) else (laws_FnExactApplyFeed.j0 k l0 l1 t369 t370 t373 t376 bt379.1 bt379.2 true)))) = some r := H
      have A14 := Aside0.mk A140
      clear A140
      replace H := Option.bind_eq_some_iff.mp H
      obtain ⟨⟨t379, t380⟩, A150, H⟩ := H
      replace H : ((laws_eqPairS.f k t379 t369).bind fun t383 => (if t383 = true then (laws_FnExactApplyFeed.j0 k l0 l1 t369 t370 t373 t376 t379 t380 (t380 != t370)) else (laws_FnExactApplyFeed.j0 k l0 l1 t369 t370 t373 t376 t379 t380 true))) = some r := H
      have A15 := Aside0.mk A150
      clear A150
      have HC16 := Aside0.mk H
      clear H
      go_enter Try.func5, Try.ntmps5
      go_upto_region 12 with (first | ((with_reducible refine gate_callee (f := 25) rfl ?_); refine gsl (some 19) rfl Try.func25 #[.slice A0 l0.length c0, .int .i64 1048576] rfl ?_; (with_reducible refine (laws_szPairS.calls k _ _ l0 1048576 t361 _ ?side1 ?side2 A3.out).mono ?_); (case side1 => exact cc HR0.out); (case side2 => exact HC0.out); rintro e w17 ⟨rfl, hb⟩; refine ⟨_, rfl, ?_⟩; replace HB := an0 HB hb; (try clear hb); (try clear hb2); (try clear hk); (try clear hi)) | ((with_reducible refine gate_callee (f := 26) rfl ?_); refine gsl (some 24) rfl Try.func26 #[.slice A1 l1.length c1, .int .i64 t361] rfl ?_; (with_reducible refine (laws_szChangeS.calls k _ _ l1 t361 t362 _ ?side1 ?side2 A6.out).mono ?_); (case side1 => exact cc (Kd.C_below HR1.out HB.out)); (case side2 => exact HC1.out); rintro e w18 ⟨rfl, hb⟩; refine ⟨_, rfl, ?_⟩; replace HB := an0 HB hb; (try clear hb); (try clear hb2); (try clear hk); (try clear hi)) | ((with_reducible refine gate_callee (f := 28) rfl ?_); refine gsl (some 29) rfl Try.func28 #[.slice A0 l0.length c0] rfl ?_; (with_reducible refine (laws_toPairS.calls k _ _ l0 t363 _ ?side1 ?side2 A10.out).mono ?_); (case side1 => exact cc (Kd.C_below HR0.out HB.out)); (case side2 => exact HC0.out); rintro e w19 ⟨v364, rfl, ho0, hb⟩; refine ⟨_, rfl, ?_⟩; have n0_ := Aside0.mk (Kd.R_lower ho0 (below_size (bp HB.out))); have n1_ := an0 HB hb; clear HB; have HO365 := n0_; have HB := n1_; clear n0_ n1_; (try clear hb); (try clear hb2); (try clear hk); (try clear hi); (try clear ho0)) | ((with_reducible refine gate_callee (f := 29) rfl ?_); refine gsl (some 31) rfl Try.func29 #[.slice A1 l1.length c1] rfl ?_; (with_reducible refine (laws_toChangeS.calls k _ _ l1 t366 _ ?side1 ?side2 A11.out).mono ?_); (case side1 => exact cc (Kd.C_below HR1.out HB.out)); (case side2 => exact HC1.out); rintro e w20 ⟨v367, rfl, ho0, hb⟩; refine ⟨_, rfl, ?_⟩; have n0_ := Aside0.mk (Kd.R_below (kr HO365.out) hb); have n1_ := Aside0.mk (Kd.R_lower ho0 (below_size (bp HB.out))); have n2_ := an0 HB hb; clear HO365; clear HB; have HO365 := n0_; have HO368 := n1_; have HB := n2_; clear n0_ n1_ n2_; (try clear hb); (try clear hb2); (try clear hk); (try clear hi); (try clear ho0); obtain ⟨Ao21, co21, eo21⟩ := Kd.R_slice HO365.out; subst eo21; obtain ⟨Ao22, co22, eo22⟩ := Kd.R_slice HO368.out; subst eo22) | ((with_reducible refine gate_callee (f := 27) rfl ?_); refine gsl (some 32) rfl Try.func27 #[.slice Ao21 t363.length co21, .slice Ao22 t366.length co22] rfl ?_; (with_reducible refine (spec_ApplyFeed.calls k _ _ t363 _ _ t366 t369 t370 _ ?side1 ?side2 ?side3 ?side4 A12.out).mono ?_); (case side1 => exact laws_FnExactApplyFeed.s0 HO365.out); (case side2 => exact (Kd.R_reads' HO365.out).2.1); (case side3 => exact laws_FnExactApplyFeed.s0 HO368.out); (case side4 => exact (Kd.R_reads' HO368.out).2.1); rintro e w23 ⟨v371, rfl, ho0, hb⟩; refine ⟨_, rfl, ?_⟩; have n0_ := Aside0.mk (Kd.R_elder' (kr HO365.out) (Kd.R_base ho0) hb); have n1_ := Aside0.mk (Kd.R_below (kr HO368.out) hb); have n2_ := Aside0.mk (Kd.R_lower (Kd.R_new' ho0 (Kd.R_lt (kr HO365.out))) (below_size (bp HB.out))); have n3_ := an0 HB hb; clear HO365; clear HO368; clear HB; have HO365 := n0_; have HO368 := n1_; have HO372 := n2_; have HB := n3_; clear n0_ n1_ n2_ n3_; (try clear hb); (try clear hb2); (try clear hk); (try clear hi); (try clear ho0)) | ((with_reducible refine gate_callee (f := 28) rfl ?_); refine gsl (some 36) rfl Try.func28 #[.slice A0 l0.length c0] rfl ?_; (with_reducible refine (laws_toPairS.calls k _ _ l0 t373 _ ?side1 ?side2 A13.out).mono ?_); (case side1 => exact cc (Kd.C_below HR0.out HB.out)); (case side2 => exact HC0.out); rintro e w24 ⟨v374, rfl, ho0, hb⟩; refine ⟨_, rfl, ?_⟩; have n0_ := Aside0.mk (Kd.R_elder' (kr HO365.out) (Kd.R_base ho0) hb); have n1_ := Aside0.mk (Kd.R_below (kr HO368.out) hb); have n2_ := Aside0.mk (Kd.R_elder' (kr HO372.out) (Kd.R_base ho0) hb); have n3_ := Aside0.mk (Kd.R_lower (Kd.R_new' (Kd.R_new' ho0 (Kd.R_lt (kr HO365.out))) (Kd.R_lt (kr HO372.out))) (below_size (bp HB.out))); have n4_ := an0 HB hb; clear HO365; clear HO368; clear HO372; clear HB; have HO365 := n0_; have HO368 := n1_; have HO372 := n2_; have HO375 := n3_; have HB := n4_; clear n0_ n1_ n2_ n3_ n4_; (try clear hb); (try clear hb2); (try clear hk); (try clear hi); (try clear ho0)) | ((with_reducible refine gate_callee (f := 29) rfl ?_); refine gsl (some 38) rfl Try.func29 #[.slice A1 l1.length c1] rfl ?_; (with_reducible refine (laws_toChangeS.calls k _ _ l1 t376 _ ?side1 ?side2 A14.out).mono ?_); (case side1 => exact cc (Kd.C_below HR1.out HB.out)); (case side2 => exact HC1.out); rintro e w25 ⟨v377, rfl, ho0, hb⟩; refine ⟨_, rfl, ?_⟩; have n0_ := Aside0.mk (Kd.R_below (kr HO365.out) hb); have n1_ := Aside0.mk (Kd.R_elder' (kr HO368.out) (Kd.R_base ho0) hb); have n2_ := Aside0.mk (Kd.R_below (kr HO372.out) hb); have n3_ := Aside0.mk (Kd.R_below (kr HO375.out) hb); have n4_ := Aside0.mk (Kd.R_lower (Kd.R_new' ho0 (Kd.R_lt (kr HO368.out))) (below_size (bp HB.out))); have n5_ := an0 HB hb; clear HO365; clear HO368; clear HO372; clear HO375; clear HB; have HO365 := n0_; have HO368 := n1_; have HO372 := n2_; have HO375 := n3_; have HO378 := n4_; have HB := n5_; clear n0_ n1_ n2_ n3_ n4_ n5_; (try clear hb); (try clear hb2); (try clear hk); (try clear hi); (try clear ho0); obtain ⟨Ao26, co26, eo26⟩ := Kd.R_slice HO375.out; subst eo26; obtain ⟨Ao27, co27, eo27⟩ := Kd.R_slice HO378.out; subst eo27) | ((with_reducible refine gate_callee (f := 30) rfl ?_); refine gsl (some 42) rfl Try.func30 #[.slice Ao26 t373.length co26, .slice Ao27 t376.length co27] rfl ?_; (with_reducible refine (impl_ApplyFeed.calls k _ _ t373 _ _ t376 t379 t380 _ ?side1 ?side2 ?side3 ?side4 A15.out).mono ?_); (case side1 => exact laws_FnExactApplyFeed.s0 HO375.out); (case side2 => exact (Kd.R_reads' HO375.out).2.1); (case side3 => exact laws_FnExactApplyFeed.s0 HO378.out); (case side4 => exact (Kd.R_reads' HO378.out).2.1); rintro e w28 ⟨v381, rfl, ho0, hb⟩; refine ⟨_, rfl, ?_⟩; have n0_ := Aside0.mk (Kd.R_elder' (kr HO365.out) (Kd.R_base ho0) hb); have n1_ := Aside0.mk (Kd.R_below (kr HO368.out) hb); have n2_ := Aside0.mk (Kd.R_elder' (kr HO372.out) (Kd.R_base ho0) hb); have n3_ := Aside0.mk (Kd.R_elder' (kr HO375.out) (Kd.R_base ho0) hb); have n4_ := Aside0.mk (Kd.R_below (kr HO378.out) hb); have n5_ := Aside0.mk (Kd.R_lower (Kd.R_new' (Kd.R_new' (Kd.R_new' ho0 (Kd.R_lt (kr HO365.out))) (Kd.R_lt (kr HO372.out))) (Kd.R_lt (kr HO375.out))) (below_size (bp HB.out))); have n6_ := an0 HB hb; clear HO365; clear HO368; clear HO372; clear HO375; clear HO378; clear HB; have HO365 := n0_; have HO368 := n1_; have HO372 := n2_; have HO375 := n3_; have HO378 := n4_; have HO382 := n5_; have HB := n6_; clear n0_ n1_ n2_ n3_ n4_ n5_ n6_; (try clear hb); (try clear hb2); (try clear hk); (try clear hi); (try clear ho0)))
      (try simp only [Act.put, List.setIfInBounds_toArray, List.set_cons_zero, List.set_cons_succ])
      go_cut [53] (fun v53 wc => ∃ (kq : Nat) (x53_15 : Bool), v53 = .bool x53_15 ∧ Aside0 (laws_FnExactApplyFeed.j0 kq l0 l1 t369 t370 t373 t376 t379 t380 x53_15 = some r) ∧ Aside0 (kq ≤ k) ∧ Aside0 (Kd.R k29 29 wc w.heap.size (fun k_ => some k_ ≠ ((.slice Ao26 t373.length co26) : Value).ownBlock ∧ some k_ ≠ (v381 : Value).ownBlock) v371 t369) ∧ Aside0 (Kd.R k29 29 wc w.heap.size (fun k_ => some k_ ≠ (v371 : Value).ownBlock ∧ some k_ ≠ (v381 : Value).ownBlock) (.slice Ao26 t373.length co26) t373) ∧ Aside0 (Kd.R k75 75 wc w.heap.size (fun _ => True) (.slice Ao27 t376.length co27) t376) ∧ Aside0 (Kd.R k29 29 wc w.heap.size (fun k_ => some k_ ≠ (v371 : Value).ownBlock ∧ some k_ ≠ ((.slice Ao26 t373.length co26) : Value).ownBlock) v381 t379) ∧ Aside0 (Below w.heap.size w wc))
      case first =>
        have H := HC16.out
        clear HC16
        replace H := Option.bind_eq_some_iff.mp H
        obtain ⟨t383, A290, H⟩ := H
        replace H : (if t383 = true then (laws_FnExactApplyFeed.j0 k l0 l1 t369 t370 t373 t376 t379 t380 (t380 != t370)) else (laws_FnExactApplyFeed.j0 k l0 l1 t369 t370 t373 t376 t379 t380 true)) = some r := H
        have A29 := Aside0.mk A290
        clear A290
        by_cases c30 : t383 = true
        · subst c30
          have H1 : (laws_FnExactApplyFeed.j0 k l0 l1 t369 t370 t373 t376 t379 t380 (t380 != t370)) = some r := by rw [if_pos rfl] at H; exact H
          clear H
          have H := H1
          clear H1
          have H' := Aside0.mk H
          clear H
          obtain ⟨Ao31, co31, eo31⟩ := Kd.R_slice HO382.out
          subst eo31
          obtain ⟨Ao32, co32, eo32⟩ := Kd.R_slice HO372.out
          subst eo32
          go_wp2_with (first | ((with_reducible refine gate_callee (f := 31) rfl ?_); refine gsl (some 47) rfl Try.func31 #[.slice Ao31 t379.length co31, .slice Ao32 t369.length co32] rfl ?_; (with_reducible refine (laws_eqPairS.calls k _ _ t379 _ _ t369 true _ ?side1 ?side2 ?side3 ?side4 A29.out).mono ?_); (case side1 => exact laws_FnExactApplyFeed.s0 HO382.out); (case side2 => exact (Kd.R_reads' HO382.out).2.1); (case side3 => exact laws_FnExactApplyFeed.s0 HO372.out); (case side4 => exact (Kd.R_reads' HO372.out).2.1); rintro e w33 ⟨rfl, hb⟩; refine ⟨_, rfl, ?_⟩; have n0_ := Aside0.mk (Kd.R_below (kr HO365.out) hb); have n1_ := Aside0.mk (Kd.R_below (kr HO368.out) hb); have n2_ := Aside0.mk (Kd.R_below (kr HO372.out) hb); have n3_ := Aside0.mk (Kd.R_below (kr HO375.out) hb); have n4_ := Aside0.mk (Kd.R_below (kr HO378.out) hb); have n5_ := Aside0.mk (Kd.R_below (kr HO382.out) hb); have n6_ := an0 HB hb; clear HO365; clear HO368; clear HO372; clear HO375; clear HO378; clear HO382; clear HB; have HO365 := n0_; have HO368 := n1_; have HO372 := n2_; have HO375 := n3_; have HO378 := n4_; have HO382 := n5_; have HB := n6_; clear n0_ n1_ n2_ n3_ n4_ n5_ n6_; (try clear hb); (try clear hb2); (try clear hk); (try clear hi)))
          go_meet
          case rel => exact ⟨_, ((t380 != t370)), (by first | rfl | (simp; done) | (simp [*]; done) | (simp [bne_nil_, beq_nil_]; done)), H', ⟨by first | omega | exact Nat.le_refl _⟩, ⟨by (with_reducible repeat (first | apply Kd.R_alloc | apply Kd.R_drewN | apply Kd.R_drew)); exact Kd.R_mono HO372.out (fun _ hk => ⟨hk.1.2, hk.2⟩)⟩, ⟨by (with_reducible repeat (first | apply Kd.R_alloc | apply Kd.R_drewN | apply Kd.R_drew)); exact Kd.R_mono HO375.out (fun _ hk => ⟨hk.1.2, hk.2⟩)⟩, ⟨by (with_reducible repeat (first | apply Kd.R_alloc | apply Kd.R_drewN | apply Kd.R_drew)); exact Kd.R_mono HO378.out (fun _ hk => trivial)⟩, ⟨by (with_reducible repeat (first | apply Kd.R_alloc | apply Kd.R_drewN | apply Kd.R_drew)); exact Kd.R_mono HO382.out (fun _ hk => ⟨hk.1.2, hk.2⟩)⟩, ⟨bp HB.out⟩⟩
        · replace c30 := Bool.eq_false_iff.mpr c30
          subst c30
          have H1 : (laws_FnExactApplyFeed.j0 k l0 l1 t369 t370 t373 t376 t379 t380 true) = some r := by rw [if_neg (show ¬ (false = true) by decide)] at H; exact H
          clear H
          have H := H1
          clear H1
          have H' := Aside0.mk H
          clear H
          obtain ⟨Ao34, co34, eo34⟩ := Kd.R_slice HO382.out
          subst eo34
          obtain ⟨Ao35, co35, eo35⟩ := Kd.R_slice HO372.out
          subst eo35
          go_wp2_with (first | ((with_reducible refine gate_callee (f := 31) rfl ?_); refine gsl (some 47) rfl Try.func31 #[.slice Ao34 t379.length co34, .slice Ao35 t369.length co35] rfl ?_; (with_reducible refine (laws_eqPairS.calls k _ _ t379 _ _ t369 false _ ?side1 ?side2 ?side3 ?side4 A29.out).mono ?_); (case side1 => exact laws_FnExactApplyFeed.s0 HO382.out); (case side2 => exact (Kd.R_reads' HO382.out).2.1); (case side3 => exact laws_FnExactApplyFeed.s0 HO372.out); (case side4 => exact (Kd.R_reads' HO372.out).2.1); rintro e w36 ⟨rfl, hb⟩; refine ⟨_, rfl, ?_⟩; have n0_ := Aside0.mk (Kd.R_below (kr HO365.out) hb); have n1_ := Aside0.mk (Kd.R_below (kr HO368.out) hb); have n2_ := Aside0.mk (Kd.R_below (kr HO372.out) hb); have n3_ := Aside0.mk (Kd.R_below (kr HO375.out) hb); have n4_ := Aside0.mk (Kd.R_below (kr HO378.out) hb); have n5_ := Aside0.mk (Kd.R_below (kr HO382.out) hb); have n6_ := an0 HB hb; clear HO365; clear HO368; clear HO372; clear HO375; clear HO378; clear HO382; clear HB; have HO365 := n0_; have HO368 := n1_; have HO372 := n2_; have HO375 := n3_; have HO378 := n4_; have HO382 := n5_; have HB := n6_; clear n0_ n1_ n2_ n3_ n4_ n5_ n6_; (try clear hb); (try clear hb2); (try clear hk); (try clear hi)))
          go_meet
          case rel => exact ⟨_, (true), (by first | rfl | (simp; done) | (simp [*]; done) | (simp [bne_nil_, beq_nil_]; done)), H', ⟨by first | omega | exact Nat.le_refl _⟩, ⟨by (with_reducible repeat (first | apply Kd.R_alloc | apply Kd.R_drewN | apply Kd.R_drew)); exact Kd.R_mono HO372.out (fun _ hk => ⟨hk.1.2, hk.2⟩)⟩, ⟨by (with_reducible repeat (first | apply Kd.R_alloc | apply Kd.R_drewN | apply Kd.R_drew)); exact Kd.R_mono HO375.out (fun _ hk => ⟨hk.1.2, hk.2⟩)⟩, ⟨by (with_reducible repeat (first | apply Kd.R_alloc | apply Kd.R_drewN | apply Kd.R_drew)); exact Kd.R_mono HO378.out (fun _ hk => trivial)⟩, ⟨by (with_reducible repeat (first | apply Kd.R_alloc | apply Kd.R_drewN | apply Kd.R_drew)); exact Kd.R_mono HO382.out (fun _ hk => ⟨hk.1.2, hk.2⟩)⟩, ⟨bp HB.out⟩⟩
      case rest =>
        clear HC16
        try clear c1
        try clear c2
        try clear p2
        try clear c3
        try clear c4
        try clear c4b0
        try clear c5
        try clear p6
        try clear c7
        try clear c7b0
        try clear c25
        try clear c26
        try clear c27
        try clear c28
        try clear c29
        try clear c30
        try clear c31
        obtain ⟨kq, x53_15, rfl, HA, HJ15, HO_6, HO_8, HO_9, HO_10, HB⟩ := hcut
        cases kq with
        | zero => exact absurd HA.out (by simp [laws_FnExactApplyFeed.j0])
        | succ kj15 =>
          have H := HA.out
          clear HA
          simp only [laws_FnExactApplyFeed.j0] at H
          by_cases c37 : x53_15 = true
          · subst c37
            have H1 : (some false) = some r := by rw [if_pos rfl] at H; exact H
            clear H
            have H := H1
            clear H1
            obtain rfl := Option.some.inj H
            exact absurd hrt.out (by simp)
          · replace c37 := Bool.eq_false_iff.mpr c37
            subst c37
            have H1 : ((laws_toPairS.f kj15 l0).bind fun t384 => ((laws_eqPairS.f kj15 t373 t384).bind fun t387 => (if t387 = true then ((laws_toChangeS.f kj15 l1).bind fun t388 => ((laws_eqChangeS.f kj15 t376 t388).bind fun t391 => (if t391 = true then ((laws_markPairS.f kj15 t373 1).bind fun bt392 => ((laws_markChangeS.f kj15 t376 bt392.1).bind fun bt394 => (if bt394.1 < 0 then (laws_FnExactApplyFeed.j1 kj15 l0 l1 t369 t370 t379 true) else ((laws_eqPairS.f kj15 t379 t369).bind fun t396 => (if t396 = true then (laws_FnExactApplyFeed.j1 kj15 l0 l1 t369 t370 t379 (t380 != t370)) else (laws_FnExactApplyFeed.j1 kj15 l0 l1 t369 t370 t379 true)))))) else (some false)))) else (some false)))) = some r := by rw [if_neg (show ¬ (false = true) by decide)] at H; exact H
            clear H
            have H := H1
            clear H1
            replace H := Option.bind_eq_some_iff.mp H
            obtain ⟨t384, A380, H⟩ := H
            replace H : ((laws_eqPairS.f kj15 t373 t384).bind fun t387 => (if t387 = true then ((laws_toChangeS.f kj15 l1).bind fun t388 => ((laws_eqChangeS.f kj15 t376 t388).bind fun t391 => (if t391 = true then ((laws_markPairS.f kj15 t373 1).bind fun bt392 => ((laws_markChangeS.f kj15 t376 bt392.1).bind fun bt394 => (if bt394.1 < 0 then (laws_FnExactApplyFeed.j1 kj15 l0 l1 t369 t370 t379 true) else ((laws_eqPairS.f kj15 t379 t369).bind fun t396 => (if t396 = true then (laws_FnExactApplyFeed.j1 kj15 l0 l1 t369 t370 t379 (t380 != t370)) else (laws_FnExactApplyFeed.j1 kj15 l0 l1 t369 t370 t379 true)))))) else (some false)))) else (some false))) = some r := H
            have A38 := Aside0.mk A380
            clear A380
            replace H := Option.bind_eq_some_iff.mp H
            obtain ⟨t387, A390, H⟩ := H
            replace H : (if t387 = true then ((laws_toChangeS.f kj15 l1).bind fun t388 => ((laws_eqChangeS.f kj15 t376 t388).bind fun t391 => (if t391 = true then ((laws_markPairS.f kj15 t373 1).bind fun bt392 => ((laws_markChangeS.f kj15 t376 bt392.1).bind fun bt394 => (if bt394.1 < 0 then (laws_FnExactApplyFeed.j1 kj15 l0 l1 t369 t370 t379 true) else ((laws_eqPairS.f kj15 t379 t369).bind fun t396 => (if t396 = true then (laws_FnExactApplyFeed.j1 kj15 l0 l1 t369 t370 t379 (t380 != t370)) else (laws_FnExactApplyFeed.j1 kj15 l0 l1 t369 t370 t379 true)))))) else (some false)))) else (some false)) = some r := H
            have A39 := Aside0.mk A390
            clear A390
            by_cases c40 : t387 = true
            · subst c40
              have H1 : ((laws_toChangeS.f kj15 l1).bind fun t388 => ((laws_eqChangeS.f kj15 t376 t388).bind fun t391 => (if t391 = true then ((laws_markPairS.f kj15 t373 1).bind fun bt392 => ((laws_markChangeS.f kj15 t376 bt392.1).bind fun bt394 => (if bt394.1 < 0 then (laws_FnExactApplyFeed.j1 kj15 l0 l1 t369 t370 t379 true) else ((laws_eqPairS.f kj15 t379 t369).bind fun t396 => (if t396 = true then (laws_FnExactApplyFeed.j1 kj15 l0 l1 t369 t370 t379 (t380 != t370)) else (laws_FnExactApplyFeed.j1 kj15 l0 l1 t369 t370 t379 true)))))) else (some false)))) = some r := by rw [if_pos rfl] at H; exact H
              clear H
              have H := H1
              clear H1
              replace H := Option.bind_eq_some_iff.mp H
              obtain ⟨t388, A410, H⟩ := H
              replace H : ((laws_eqChangeS.f kj15 t376 t388).bind fun t391 => (if t391 = true then ((laws_markPairS.f kj15 t373 1).bind fun bt392 => ((laws_markChangeS.f kj15 t376 bt392.1).bind fun bt394 => (if bt394.1 < 0 then (laws_FnExactApplyFeed.j1 kj15 l0 l1 t369 t370 t379 true) else ((laws_eqPairS.f kj15 t379 t369).bind fun t396 => (if t396 = true then (laws_FnExactApplyFeed.j1 kj15 l0 l1 t369 t370 t379 (t380 != t370)) else (laws_FnExactApplyFeed.j1 kj15 l0 l1 t369 t370 t379 true)))))) else (some false))) = some r := H
              have A41 := Aside0.mk A410
              clear A410
              replace H := Option.bind_eq_some_iff.mp H
              obtain ⟨t391, A420, H⟩ := H
              replace H : (if t391 = true then ((laws_markPairS.f kj15 t373 1).bind fun bt392 => ((laws_markChangeS.f kj15 t376 bt392.1).bind fun bt394 => (if bt394.1 < 0 then (laws_FnExactApplyFeed.j1 kj15 l0 l1 t369 t370 t379 true) else ((laws_eqPairS.f kj15 t379 t369).bind fun t396 => (if t396 = true then (laws_FnExactApplyFeed.j1 kj15 l0 l1 t369 t370 t379 (t380 != t370)) else (laws_FnExactApplyFeed.j1 kj15 l0 l1 t369 t370 t379 true)))))) else (some false)) = some r := H
              have A42 := Aside0.mk A420
              clear A420
              by_cases c43 : t391 = true
              · subst c43
                have H1 : ((laws_markPairS.f kj15 t373 1).bind fun bt392 => ((laws_markChangeS.f kj15 t376 bt392.1).bind fun bt394 => (if bt394.1 < 0 then (laws_FnExactApplyFeed.j1 kj15 l0 l1 t369 t370 t379 true) else ((laws_eqPairS.f kj15 t379 t369).bind fun t396 => (if t396 = true then (laws_FnExactApplyFeed.j1 kj15 l0 l1 t369 t370 t379 (t380 != t370)) else (laws_FnExactApplyFeed.j1 kj15 l0 l1 t369 t370 t379 true)))))) = some r := by rw [if_pos rfl] at H; exact H
                clear H
                have H := H1
                clear H1
                replace H := Option.bind_eq_some_iff.mp H
                obtain ⟨⟨t392, t393⟩, A440, H⟩ := H
                replace H : ((laws_markChangeS.f kj15 t376 t392).bind fun bt394 => (if bt394.1 < 0 then (laws_FnExactApplyFeed.j1 kj15 l0 l1 t369 t370 t379 true) else ((laws_eqPairS.f kj15 t379 t369).bind fun t396 => (if t396 = true then (laws_FnExactApplyFeed.j1 kj15 l0 l1 t369 t370 t379 (t380 != t370)) else (laws_FnExactApplyFeed.j1 kj15 l0 l1 t369 t370 t379 true))))) = some r := H
                have A44 := Aside0.mk A440
                clear A440
                replace H := Option.bind_eq_some_iff.mp H
                obtain ⟨⟨t394, t395⟩, A450, H⟩ := H
                replace H : (if t394 < 0 then (laws_FnExactApplyFeed.j1 kj15 l0 l1 t369 t370 t379 true) else ((laws_eqPairS.f kj15 t379 t369).bind fun t396 => (if t396 = true then (laws_FnExactApplyFeed.j1 kj15 l0 l1 t369 t370 t379 (t380 != t370)) else (laws_FnExactApplyFeed.j1 kj15 l0 l1 t369 t370 t379 true)))) = some r := H
                have A45 := Aside0.mk A450
                clear A450
                have HC46 := Aside0.mk H
                clear H
                go_upto_region 21 with (first | ((with_reducible refine gate_callee (f := 28) rfl ?_); refine gsl (some 56) rfl Try.func28 #[.slice A0 l0.length c0] rfl ?_; (with_reducible refine (laws_toPairS.calls kj15 _ _ l0 t384 _ ?side1 ?side2 A38.out).mono ?_); (case side1 => exact cc (Kd.C_below HR0.out HB.out)); (case side2 => exact HC0.out); rintro e w47 ⟨v385, rfl, ho0, hb⟩; refine ⟨_, rfl, ?_⟩; have n0_ := Aside0.mk (Kd.R_elder' (kr HO_6.out) (Kd.R_base ho0) hb); have n1_ := Aside0.mk (Kd.R_elder' (kr HO_8.out) (Kd.R_base ho0) hb); have n2_ := Aside0.mk (Kd.R_below (kr HO_9.out) hb); have n3_ := Aside0.mk (Kd.R_elder' (kr HO_10.out) (Kd.R_base ho0) hb); have n4_ := Aside0.mk (Kd.R_lower (Kd.R_new' (Kd.R_new' (Kd.R_new' ho0 (Kd.R_lt (kr HO_6.out))) (Kd.R_lt (kr HO_8.out))) (Kd.R_lt (kr HO_10.out))) (below_size (bp HB.out))); have n5_ := an0 HB hb; clear HO_6; clear HO_8; clear HO_9; clear HO_10; clear HB; have HO_6 := n0_; have HO_8 := n1_; have HO_9 := n2_; have HO_10 := n3_; have HO386 := n4_; have HB := n5_; clear n0_ n1_ n2_ n3_ n4_ n5_; (try clear hb); (try clear hb2); (try clear hk); (try clear hi); (try clear ho0); obtain ⟨Ao48, co48, eo48⟩ := Kd.R_slice HO386.out; subst eo48) | ((with_reducible refine gate_callee (f := 31) rfl ?_); refine gsl (some 57) rfl Try.func31 #[.slice Ao26 t373.length co26, .slice Ao48 t384.length co48] rfl ?_; (with_reducible refine (laws_eqPairS.calls kj15 _ _ t373 _ _ t384 true _ ?side1 ?side2 ?side3 ?side4 A39.out).mono ?_); (case side1 => exact laws_FnExactApplyFeed.s0 HO_8.out); (case side2 => exact (Kd.R_reads' HO_8.out).2.1); (case side3 => exact laws_FnExactApplyFeed.s0 HO386.out); (case side4 => exact (Kd.R_reads' HO386.out).2.1); rintro e w49 ⟨rfl, hb⟩; refine ⟨_, rfl, ?_⟩; have n0_ := Aside0.mk (Kd.R_below (kr HO_6.out) hb); have n1_ := Aside0.mk (Kd.R_below (kr HO_8.out) hb); have n2_ := Aside0.mk (Kd.R_below (kr HO_9.out) hb); have n3_ := Aside0.mk (Kd.R_below (kr HO_10.out) hb); have n4_ := Aside0.mk (Kd.R_below (kr HO386.out) hb); have n5_ := an0 HB hb; clear HO_6; clear HO_8; clear HO_9; clear HO_10; clear HO386; clear HB; have HO_6 := n0_; have HO_8 := n1_; have HO_9 := n2_; have HO_10 := n3_; have HO386 := n4_; have HB := n5_; clear n0_ n1_ n2_ n3_ n4_ n5_; (try clear hb); (try clear hb2); (try clear hk); (try clear hi)) | ((with_reducible refine gate_callee (f := 29) rfl ?_); refine gsl (some 61) rfl Try.func29 #[.slice A1 l1.length c1] rfl ?_; (with_reducible refine (laws_toChangeS.calls kj15 _ _ l1 t388 _ ?side1 ?side2 A41.out).mono ?_); (case side1 => exact cc (Kd.C_below HR1.out HB.out)); (case side2 => exact HC1.out); rintro e w50 ⟨v389, rfl, ho0, hb⟩; refine ⟨_, rfl, ?_⟩; have n0_ := Aside0.mk (Kd.R_below (kr HO_6.out) hb); have n1_ := Aside0.mk (Kd.R_below (kr HO_8.out) hb); have n2_ := Aside0.mk (Kd.R_elder' (kr HO_9.out) (Kd.R_base ho0) hb); have n3_ := Aside0.mk (Kd.R_below (kr HO_10.out) hb); have n4_ := Aside0.mk (Kd.R_below (kr HO386.out) hb); have n5_ := Aside0.mk (Kd.R_lower (Kd.R_new' ho0 (Kd.R_lt (kr HO_9.out))) (below_size (bp HB.out))); have n6_ := an0 HB hb; clear HO_6; clear HO_8; clear HO_9; clear HO_10; clear HO386; clear HB; have HO_6 := n0_; have HO_8 := n1_; have HO_9 := n2_; have HO_10 := n3_; have HO386 := n4_; have HO390 := n5_; have HB := n6_; clear n0_ n1_ n2_ n3_ n4_ n5_ n6_; (try clear hb); (try clear hb2); (try clear hk); (try clear hi); (try clear ho0); obtain ⟨Ao51, co51, eo51⟩ := Kd.R_slice HO390.out; subst eo51) | ((with_reducible refine gate_callee (f := 32) rfl ?_); refine gsl (some 62) rfl Try.func32 #[.slice Ao27 t376.length co27, .slice Ao51 t388.length co51] rfl ?_; (with_reducible refine (laws_eqChangeS.calls kj15 _ _ t376 _ _ t388 true _ ?side1 ?side2 ?side3 ?side4 A42.out).mono ?_); (case side1 => exact laws_FnExactApplyFeed.s0 HO_9.out); (case side2 => exact (Kd.R_reads' HO_9.out).2.1); (case side3 => exact laws_FnExactApplyFeed.s0 HO390.out); (case side4 => exact (Kd.R_reads' HO390.out).2.1); rintro e w52 ⟨rfl, hb⟩; refine ⟨_, rfl, ?_⟩; have n0_ := Aside0.mk (Kd.R_below (kr HO_6.out) hb); have n1_ := Aside0.mk (Kd.R_below (kr HO_8.out) hb); have n2_ := Aside0.mk (Kd.R_below (kr HO_9.out) hb); have n3_ := Aside0.mk (Kd.R_below (kr HO_10.out) hb); have n4_ := Aside0.mk (Kd.R_below (kr HO386.out) hb); have n5_ := Aside0.mk (Kd.R_below (kr HO390.out) hb); have n6_ := an0 HB hb; clear HO_6; clear HO_8; clear HO_9; clear HO_10; clear HO386; clear HO390; clear HB; have HO_6 := n0_; have HO_8 := n1_; have HO_9 := n2_; have HO_10 := n3_; have HO386 := n4_; have HO390 := n5_; have HB := n6_; clear n0_ n1_ n2_ n3_ n4_ n5_ n6_; (try clear hb); (try clear hb2); (try clear hk); (try clear hi)) | ((with_reducible refine gate_callee (f := 33) rfl ?_); refine gsl (some 66) rfl Try.func33 #[.slice Ao26 t373.length co26, .int .i64 1] rfl ?_; (with_reducible refine (laws_markPairS.calls kj15 (fun k_ => some k_ = (.slice Ao26 t373.length co26 : Value).ownBlock) (.slice Ao26 t373.length co26) t373 1 t392 t393 w _ ?side1 ?side2 A44.out).mono ?_); (case side1 => exact laws_FnExactApplyFeed.s1 HB.out); (case side2 => exact Kd.R_tight rfl HO_8.out); rintro e w53 ⟨rfl, hy0, hb, hkp⟩; refine ⟨_, rfl, ?_⟩; have n0_ := Aside0.mk (Kd.R_mono (ok' := fun k_ => some k_ ≠ (.slice Ao26 t373.length co26 : Value).ownBlock ∧ some k_ ≠ (v381 : Value).ownBlock ∧ some k_ ≠ (.slice Ao48 t384.length co48 : Value).ownBlock) (Kd.R_keptB (HO_6.out) hkp (fun k_ hk_ hs_ => (hk_.1.1) hs_)) (fun k_ hk_ => ⟨hk_.1.1.1, hk_.1.1.2, hk_.1.2⟩)); have n1_ := Aside0.mk (Kd.R_reok rfl hy0 (fun k_ e_ => HO_8.out.1 k_ e_)); have n2_ := Aside0.mk (Kd.R_mono (ok' := fun k_ => some k_ ≠ (.slice Ao51 t388.length co51 : Value).ownBlock) (Kd.R_keptB ((Kd.R_apart' HO_9.out (Kd.R_typed HO_8.out) (by decide))) hkp (fun k_ hk_ hs_ => (hk_.2) hs_)) (fun k_ hk_ => hk_.1.1.2)); have n3_ := Aside0.mk (Kd.R_mono (ok' := fun k_ => some k_ ≠ (v371 : Value).ownBlock ∧ some k_ ≠ (.slice Ao26 t373.length co26 : Value).ownBlock ∧ some k_ ≠ (.slice Ao48 t384.length co48 : Value).ownBlock) (Kd.R_keptB (HO_10.out) hkp (fun k_ hk_ hs_ => (hk_.1.2) hs_)) (fun k_ hk_ => ⟨hk_.1.1.1, hk_.1.1.2, hk_.1.2⟩)); have n4_ := Aside0.mk (Kd.R_mono (ok' := fun k_ => some k_ ≠ (v371 : Value).ownBlock ∧ some k_ ≠ (.slice Ao26 t373.length co26 : Value).ownBlock ∧ some k_ ≠ (v381 : Value).ownBlock) (Kd.R_keptB (HO386.out) hkp (fun k_ hk_ hs_ => (hk_.1.2) hs_)) (fun k_ hk_ => ⟨hk_.1.1.1.2, hk_.1.1.2, hk_.1.2⟩)); have n5_ := Aside0.mk (Kd.R_mono (ok' := fun k_ => some k_ ≠ (.slice Ao27 t376.length co27 : Value).ownBlock) (Kd.R_keptB ((Kd.R_apart' HO390.out (Kd.R_typed HO_8.out) (by decide))) hkp (fun k_ hk_ hs_ => (hk_.2) hs_)) (fun k_ hk_ => hk_.1.1.2)); have n6_ := Aside0.mk (hb); clear HO_6; clear HO_8; clear HO_9; clear HO_10; clear HO386; clear HO390; clear HB; have HO_6 := n0_; have HO_8 := n1_; have HO_9 := n2_; have HO_10 := n3_; have HO386 := n4_; have HO390 := n5_; have HB := n6_; clear n0_ n1_ n2_ n3_ n4_ n5_ n6_; (try clear hb); (try clear hkp); (try clear hy0)) | ((with_reducible refine gate_callee (f := 34) rfl ?_); refine gsl (some 69) rfl Try.func34 #[.slice Ao27 t376.length co27, .int .i64 t392] rfl ?_; (with_reducible refine (laws_markChangeS.calls kj15 (fun k_ => some k_ = (.slice Ao27 t376.length co27 : Value).ownBlock) (.slice Ao27 t376.length co27) t376 t392 t394 t395 w _ ?side1 ?side2 A45.out).mono ?_); (case side1 => exact laws_FnExactApplyFeed.s1 HB.out); (case side2 => exact Kd.R_tight rfl HO_9.out); rintro e w54 ⟨rfl, hy0, hb, hkp⟩; refine ⟨_, rfl, ?_⟩; have n0_ := Aside0.mk (Kd.R_mono (ok' := fun k_ => some k_ ≠ (.slice Ao26 t373.length co26 : Value).ownBlock ∧ some k_ ≠ (v381 : Value).ownBlock ∧ some k_ ≠ (.slice Ao48 t384.length co48 : Value).ownBlock) (Kd.R_keptB ((Kd.R_apart' HO_6.out (Kd.R_typed HO_9.out) (by decide))) hkp (fun k_ hk_ hs_ => (hk_.2) hs_)) (fun k_ hk_ => ⟨hk_.1.1.1, hk_.1.1.2.1, hk_.1.1.2.2⟩)); have n1_ := Aside0.mk (Kd.R_mono (ok' := fun k_ => some k_ ≠ (v371 : Value).ownBlock ∧ some k_ ≠ (v381 : Value).ownBlock ∧ some k_ ≠ (.slice Ao48 t384.length co48 : Value).ownBlock) (Kd.R_keptB ((Kd.R_apart' HO_8.out (Kd.R_typed HO_9.out) (by decide))) hkp (fun k_ hk_ hs_ => (hk_.2) hs_)) (fun k_ hk_ => ⟨hk_.1.1.1.1, hk_.1.1.1.2, hk_.1.1.2⟩)); have n2_ := Aside0.mk (Kd.R_reok rfl hy0 (fun k_ e_ => HO_9.out.1 k_ e_)); have n3_ := Aside0.mk (Kd.R_mono (ok' := fun k_ => some k_ ≠ (v371 : Value).ownBlock ∧ some k_ ≠ (.slice Ao26 t373.length co26 : Value).ownBlock ∧ some k_ ≠ (.slice Ao48 t384.length co48 : Value).ownBlock) (Kd.R_keptB ((Kd.R_apart' HO_10.out (Kd.R_typed HO_9.out) (by decide))) hkp (fun k_ hk_ hs_ => (hk_.2) hs_)) (fun k_ hk_ => ⟨hk_.1.1.1, hk_.1.1.2.1, hk_.1.1.2.2⟩)); have n4_ := Aside0.mk (Kd.R_mono (ok' := fun k_ => some k_ ≠ (v371 : Value).ownBlock ∧ some k_ ≠ (.slice Ao26 t373.length co26 : Value).ownBlock ∧ some k_ ≠ (v381 : Value).ownBlock) (Kd.R_keptB ((Kd.R_apart' HO386.out (Kd.R_typed HO_9.out) (by decide))) hkp (fun k_ hk_ hs_ => (hk_.2) hs_)) (fun k_ hk_ => ⟨hk_.1.1.1, hk_.1.1.2.1, hk_.1.1.2.2⟩)); have n5_ := Aside0.mk (Kd.R_mono (ok' := fun k_ => some k_ ≠ (.slice Ao27 t376.length co27 : Value).ownBlock) (Kd.R_keptB (HO390.out) hkp (fun k_ hk_ hs_ => (hk_) hs_)) (fun k_ hk_ => hk_.1)); have n6_ := Aside0.mk (hb); clear HO_6; clear HO_8; clear HO_9; clear HO_10; clear HO386; clear HO390; clear HB; have HO_6 := n0_; have HO_8 := n1_; have HO_9 := n2_; have HO_10 := n3_; have HO386 := n4_; have HO390 := n5_; have HB := n6_; clear n0_ n1_ n2_ n3_ n4_ n5_ n6_; (try clear hb); (try clear hkp); (try clear hy0)))
                (try simp only [Act.put, List.setIfInBounds_toArray, List.set_cons_zero, List.set_cons_succ])
                go_cut [82] (fun v82 wc => ∃ (kq : Nat) (x82_45 : Bool), v82 = .bool x82_45 ∧ Aside0 (laws_FnExactApplyFeed.j1 kq l0 l1 t369 t370 t379 x82_45 = some r) ∧ Aside0 (kq ≤ kj15) ∧ Aside0 (Kd.R k29 29 wc w.heap.size (fun k_ => some k_ ≠ (v381 : Value).ownBlock) v371 t369) ∧ Aside0 (Kd.R k29 29 wc w.heap.size (fun k_ => some k_ ≠ (v371 : Value).ownBlock) v381 t379) ∧ Aside0 (Below w.heap.size w wc))
                case first =>
                  have H := HC46.out
                  clear HC46
                  by_cases c55 : t394 < 0
                  · rw [if_pos c55] at H
                    have c55b0 : decide (t394 < 0) = true := decide_eq_true c55
                    clear c55
                    (first | rw [c55b0] | (simp only [i64_w, i32_w]; rw [c55b0]) | skip)
                    have H' := Aside0.mk H
                    clear H
                    go_wp2
                    go_meet
                    case rel => exact ⟨_, (true), (by first | rfl | (simp; done) | (simp [*]; done) | (simp [bne_nil_, beq_nil_]; done)), H', ⟨by have := HJ15.out; first | omega | exact Nat.le_refl _⟩, ⟨by (with_reducible repeat (first | apply Kd.R_alloc | apply Kd.R_drewN | apply Kd.R_drew)); exact Kd.R_mono HO_6.out (fun _ hk => hk.2.1)⟩, ⟨by (with_reducible repeat (first | apply Kd.R_alloc | apply Kd.R_drewN | apply Kd.R_drew)); exact Kd.R_mono HO_10.out (fun _ hk => hk.1)⟩, ⟨bp HB.out⟩⟩
                  · rw [if_neg c55] at H
                    have c55b0 : decide (t394 < 0) = false := decide_eq_false c55
                    clear c55
                    (first | rw [c55b0] | (simp only [i64_w, i32_w]; rw [c55b0]) | skip)
                    replace H := Option.bind_eq_some_iff.mp H
                    obtain ⟨t396, A560, H⟩ := H
                    replace H : (if t396 = true then (laws_FnExactApplyFeed.j1 kj15 l0 l1 t369 t370 t379 (t380 != t370)) else (laws_FnExactApplyFeed.j1 kj15 l0 l1 t369 t370 t379 true)) = some r := H
                    have A56 := Aside0.mk A560
                    clear A560
                    by_cases c57 : t396 = true
                    · subst c57
                      have H1 : (laws_FnExactApplyFeed.j1 kj15 l0 l1 t369 t370 t379 (t380 != t370)) = some r := by rw [if_pos rfl] at H; exact H
                      clear H
                      have H := H1
                      clear H1
                      have H' := Aside0.mk H
                      clear H
                      obtain ⟨Ao58, co58, eo58⟩ := Kd.R_slice HO_10.out
                      subst eo58
                      obtain ⟨Ao59, co59, eo59⟩ := Kd.R_slice HO_6.out
                      subst eo59
                      go_wp2_with (first | (go_at_call 31; (with_reducible refine (laws_eqPairS.calls kj15 _ _ t379 _ _ t369 true _ ?side1 ?side2 ?side3 ?side4 A56.out).mono ?_); (case side1 => exact laws_FnExactApplyFeed.s0 HO_10.out); (case side2 => exact (Kd.R_reads' HO_10.out).2.1); (case side3 => exact laws_FnExactApplyFeed.s0 HO_6.out); (case side4 => exact (Kd.R_reads' HO_6.out).2.1); rintro e w60 ⟨rfl, hb⟩; have n0_ := Aside0.mk (Kd.R_below (kr HO_6.out) hb); have n1_ := Aside0.mk (Kd.R_below (kr HO_8.out) hb); have n2_ := Aside0.mk (Kd.R_below (kr HO_9.out) hb); have n3_ := Aside0.mk (Kd.R_below (kr HO_10.out) hb); have n4_ := Aside0.mk (Kd.R_below (kr HO386.out) hb); have n5_ := Aside0.mk (Kd.R_below (kr HO390.out) hb); have n6_ := an0 HB hb; clear HO_6; clear HO_8; clear HO_9; clear HO_10; clear HO386; clear HO390; clear HB; have HO_6 := n0_; have HO_8 := n1_; have HO_9 := n2_; have HO_10 := n3_; have HO386 := n4_; have HO390 := n5_; have HB := n6_; clear n0_ n1_ n2_ n3_ n4_ n5_ n6_; (try clear hb); (try clear hb2); (try clear hk); (try clear hi)))
                      go_meet
                      case rel => exact ⟨_, ((t380 != t370)), (by first | rfl | (simp; done) | (simp [*]; done) | (simp [bne_nil_, beq_nil_]; done)), H', ⟨by have := HJ15.out; first | omega | exact Nat.le_refl _⟩, ⟨by (with_reducible repeat (first | apply Kd.R_alloc | apply Kd.R_drewN | apply Kd.R_drew)); exact Kd.R_mono HO_6.out (fun _ hk => hk.2.1)⟩, ⟨by (with_reducible repeat (first | apply Kd.R_alloc | apply Kd.R_drewN | apply Kd.R_drew)); exact Kd.R_mono HO_10.out (fun _ hk => hk.1)⟩, ⟨bp HB.out⟩⟩
                    · replace c57 := Bool.eq_false_iff.mpr c57
                      subst c57
                      have H1 : (laws_FnExactApplyFeed.j1 kj15 l0 l1 t369 t370 t379 true) = some r := by rw [if_neg (show ¬ (false = true) by decide)] at H; exact H
                      clear H
                      have H := H1
                      clear H1
                      have H' := Aside0.mk H
                      clear H
                      obtain ⟨Ao61, co61, eo61⟩ := Kd.R_slice HO_10.out
                      subst eo61
                      obtain ⟨Ao62, co62, eo62⟩ := Kd.R_slice HO_6.out
                      subst eo62
                      go_wp2_with (first | (go_at_call 31; (with_reducible refine (laws_eqPairS.calls kj15 _ _ t379 _ _ t369 false _ ?side1 ?side2 ?side3 ?side4 A56.out).mono ?_); (case side1 => exact laws_FnExactApplyFeed.s0 HO_10.out); (case side2 => exact (Kd.R_reads' HO_10.out).2.1); (case side3 => exact laws_FnExactApplyFeed.s0 HO_6.out); (case side4 => exact (Kd.R_reads' HO_6.out).2.1); rintro e w63 ⟨rfl, hb⟩; have n0_ := Aside0.mk (Kd.R_below (kr HO_6.out) hb); have n1_ := Aside0.mk (Kd.R_below (kr HO_8.out) hb); have n2_ := Aside0.mk (Kd.R_below (kr HO_9.out) hb); have n3_ := Aside0.mk (Kd.R_below (kr HO_10.out) hb); have n4_ := Aside0.mk (Kd.R_below (kr HO386.out) hb); have n5_ := Aside0.mk (Kd.R_below (kr HO390.out) hb); have n6_ := an0 HB hb; clear HO_6; clear HO_8; clear HO_9; clear HO_10; clear HO386; clear HO390; clear HB; have HO_6 := n0_; have HO_8 := n1_; have HO_9 := n2_; have HO_10 := n3_; have HO386 := n4_; have HO390 := n5_; have HB := n6_; clear n0_ n1_ n2_ n3_ n4_ n5_ n6_; (try clear hb); (try clear hb2); (try clear hk); (try clear hi)))
                      go_meet
                      case rel => exact ⟨_, (true), (by first | rfl | (simp; done) | (simp [*]; done) | (simp [bne_nil_, beq_nil_]; done)), H', ⟨by have := HJ15.out; first | omega | exact Nat.le_refl _⟩, ⟨by (with_reducible repeat (first | apply Kd.R_alloc | apply Kd.R_drewN | apply Kd.R_drew)); exact Kd.R_mono HO_6.out (fun _ hk => hk.2.1)⟩, ⟨by (with_reducible repeat (first | apply Kd.R_alloc | apply Kd.R_drewN | apply Kd.R_drew)); exact Kd.R_mono HO_10.out (fun _ hk => hk.1)⟩, ⟨bp HB.out⟩⟩
                case rest =>
                  clear HC46
                  try clear c1
                  try clear c2
                  try clear p2
                  try clear c3
                  try clear c4
                  try clear c4b0
                  try clear c5
                  try clear p6
                  try clear c7
                  try clear c7b0
                  try clear c25
                  try clear c26
                  try clear c27
                  try clear c28
                  try clear c29
                  try clear c30
                  try clear c31
                  try clear c32
                  try clear c33
                  try clear c34
                  try clear c37
                  try clear c40
                  try clear c43
                  try clear c55
                  try clear c55b0
                  try clear c57
                  try clear p2
                  try clear p6
                  obtain ⟨kq, x82_45, rfl, HA, HJ45, HO_6, HO_10, HB⟩ := hcut
                  cases kq with
                  | zero => exact absurd HA.out (by simp [laws_FnExactApplyFeed.j1])
                  | succ kj45 =>
                    have H := HA.out
                    clear HA
                    simp only [laws_FnExactApplyFeed.j1] at H
                    by_cases c64 : x82_45 = true
                    · subst c64
                      have H1 : (some false) = some r := by rw [if_pos rfl] at H; exact H
                      clear H
                      have H := H1
                      clear H1
                      obtain rfl := Option.some.inj H
                      exact absurd hrt.out (by simp)
                    · replace c64 := Bool.eq_false_iff.mpr c64
                      subst c64
                      have H1 : ((laws_markPairS.f kj45 t379 1).bind fun bt397 => ((laws_heldPairS.f kj45 bt397.2 1).bind fun t399 => (if t399 < 0 then (some false) else (if t399 = bt397.1 then ((laws_toPairS.f kj45 l0).bind fun t400 => ((laws_toChangeS.f kj45 l1).bind fun t403 => ((impl_ApplyFeed.f kj45 t400 t403).bind fun bt406 => ((laws_eqPairS.f kj45 bt406.1 t369).bind fun t410 => (if t410 = true then (laws_FnExactApplyFeed.j2 kj45 bt397.2 bt397.1 (bt406.2 != t370)) else (laws_FnExactApplyFeed.j2 kj45 bt397.2 bt397.1 true)))))) else (some false))))) = some r := by rw [if_neg (show ¬ (false = true) by decide)] at H; exact H
                      clear H
                      have H := H1
                      clear H1
                      replace H := Option.bind_eq_some_iff.mp H
                      obtain ⟨⟨t397, t398⟩, A650, H⟩ := H
                      replace H : ((laws_heldPairS.f kj45 t398 1).bind fun t399 => (if t399 < 0 then (some false) else (if t399 = t397 then ((laws_toPairS.f kj45 l0).bind fun t400 => ((laws_toChangeS.f kj45 l1).bind fun t403 => ((impl_ApplyFeed.f kj45 t400 t403).bind fun bt406 => ((laws_eqPairS.f kj45 bt406.1 t369).bind fun t410 => (if t410 = true then (laws_FnExactApplyFeed.j2 kj45 t398 t397 (bt406.2 != t370)) else (laws_FnExactApplyFeed.j2 kj45 t398 t397 true)))))) else (some false)))) = some r := H
                      have A65 := Aside0.mk A650
                      clear A650
                      replace H := Option.bind_eq_some_iff.mp H
                      obtain ⟨t399, A660, H⟩ := H
                      replace H : (if t399 < 0 then (some false) else (if t399 = t397 then ((laws_toPairS.f kj45 l0).bind fun t400 => ((laws_toChangeS.f kj45 l1).bind fun t403 => ((impl_ApplyFeed.f kj45 t400 t403).bind fun bt406 => ((laws_eqPairS.f kj45 bt406.1 t369).bind fun t410 => (if t410 = true then (laws_FnExactApplyFeed.j2 kj45 t398 t397 (bt406.2 != t370)) else (laws_FnExactApplyFeed.j2 kj45 t398 t397 true)))))) else (some false))) = some r := H
                      have A66 := Aside0.mk A660
                      clear A660
                      by_cases c67 : t399 < 0
                      · rw [if_pos c67] at H
                        have c67b0 : decide (t399 < 0) = true := decide_eq_true c67
                        clear c67
                        obtain rfl := Option.some.inj H
                        exact absurd hrt.out (by simp)
                      · rw [if_neg c67] at H
                        have c67b0 : decide (t399 < 0) = false := decide_eq_false c67
                        clear c67
                        by_cases c68 : t399 = t397
                        · rw [if_pos c68] at H
                          have c68b0 : (t399 == t397) = true := beq_iff_eq.mpr c68
                          have c68b1 : (t399 != t397) = false := bne_eq_false_iff_eq.mpr c68
                          clear c68
                          replace H := Option.bind_eq_some_iff.mp H
                          obtain ⟨t400, A690, H⟩ := H
                          replace H : ((laws_toChangeS.f kj45 l1).bind fun t403 => ((impl_ApplyFeed.f kj45 t400 t403).bind fun bt406 => ((laws_eqPairS.f kj45 bt406.1 t369).bind fun t410 => (if t410 = true then (laws_FnExactApplyFeed.j2 kj45 t398 t397 (bt406.2 != t370)) else (laws_FnExactApplyFeed.j2 kj45 t398 t397 true))))) = some r := H
                          have A69 := Aside0.mk A690
                          clear A690
                          replace H := Option.bind_eq_some_iff.mp H
                          obtain ⟨t403, A700, H⟩ := H
                          replace H : ((impl_ApplyFeed.f kj45 t400 t403).bind fun bt406 => ((laws_eqPairS.f kj45 bt406.1 t369).bind fun t410 => (if t410 = true then (laws_FnExactApplyFeed.j2 kj45 t398 t397 (bt406.2 != t370)) else (laws_FnExactApplyFeed.j2 kj45 t398 t397 true)))) = some r := H
                          have A70 := Aside0.mk A700
                          clear A700
                          replace H := Option.bind_eq_some_iff.mp H
                          obtain ⟨⟨t406, t407⟩, A710, H⟩ := H
                          replace H : ((laws_eqPairS.f kj45 t406 t369).bind fun t410 => (if t410 = true then (laws_FnExactApplyFeed.j2 kj45 t398 t397 (t407 != t370)) else (laws_FnExactApplyFeed.j2 kj45 t398 t397 true))) = some r := H
                          have A71 := Aside0.mk A710
                          clear A710
                          have HC72 := Aside0.mk H
                          clear H
                          obtain ⟨Ao73, co73, eo73⟩ := Kd.R_slice HO_10.out
                          subst eo73
                          go_upto_region 32 with (first | ((with_reducible refine gate_callee (f := 33) rfl ?_); refine gsl (some 85) rfl Try.func33 #[.slice Ao73 t379.length co73, .int .i64 1] rfl ?_; (with_reducible refine (laws_markPairS.calls kj45 (fun k_ => some k_ = (.slice Ao73 t379.length co73 : Value).ownBlock) (.slice Ao73 t379.length co73) t379 1 t397 t398 w _ ?side1 ?side2 A65.out).mono ?_); (case side1 => exact laws_FnExactApplyFeed.s1 HB.out); (case side2 => exact Kd.R_tight rfl HO_10.out); rintro e w74 ⟨rfl, hy0, hb, hkp⟩; refine ⟨_, rfl, ?_⟩; have n0_ := Aside0.mk (Kd.R_mono (ok' := fun k_ => some k_ ≠ (.slice Ao73 t379.length co73 : Value).ownBlock) (Kd.R_keptB (HO_6.out) hkp (fun k_ hk_ hs_ => (hk_) hs_)) (fun k_ hk_ => hk_.1)); have n1_ := Aside0.mk (Kd.R_reok rfl hy0 (fun k_ e_ => HO_10.out.1 k_ e_)); have n2_ := Aside0.mk (hb); clear HO_6; clear HO_10; clear HB; have HO_6 := n0_; have HO_10 := n1_; have HB := n2_; clear n0_ n1_ n2_; (try clear hb); (try clear hkp); (try clear hy0)) | ((with_reducible refine gate_callee (f := 35) rfl ?_); refine goesL_ (some 88) rfl rfl Try.func35 (by kernel_rfl) rfl #[.slice Ao73 t398.length co73, .int .i64 1] rfl (by (try simp only [List.map_toArray, List.map_cons, List.map_nil]); first | done | (rw [show t398.length = t379.length from (Kd.R_reads' HO_10.out).1.symm] <;> rfl) | rfl | (simp only [List.length_drop, List.length_take]; rfl)) ?_; (with_reducible refine (laws_heldPairS.calls kj45 _ _ t398 1 t399 _ ?side1 ?side2 A66.out).mono ?_); (case side1 => exact laws_FnExactApplyFeed.s0 HO_10.out); (case side2 => rw [show t398.length = t379.length from (Kd.R_reads' HO_10.out).1.symm]; exact (Kd.R_reads' HO_10.out).2.1); rintro e w75 ⟨rfl, hb⟩; refine ⟨_, rfl, ?_⟩; have n0_ := Aside0.mk (Kd.R_below (kr HO_6.out) hb); have n1_ := Aside0.mk (Kd.R_below (kr HO_10.out) hb); have n2_ := an0 HB hb; clear HO_6; clear HO_10; clear HB; have HO_6 := n0_; have HO_10 := n1_; have HB := n2_; clear n0_ n1_ n2_; (try clear hb); (try clear hb2); (try clear hk); (try clear hi)) | ((with_reducible refine gate_callee (f := 28) rfl ?_); refine gsl (some 96) rfl Try.func28 #[.slice A0 l0.length c0] rfl ?_; (with_reducible refine (laws_toPairS.calls kj45 _ _ l0 t400 _ ?side1 ?side2 A69.out).mono ?_); (case side1 => exact cc (Kd.C_below HR0.out HB.out)); (case side2 => exact HC0.out); rintro e w76 ⟨v401, rfl, ho0, hb⟩; refine ⟨_, rfl, ?_⟩; have n0_ := Aside0.mk (Kd.R_elder' (kr HO_6.out) (Kd.R_base ho0) hb); have n1_ := Aside0.mk (Kd.R_elder' (kr HO_10.out) (Kd.R_base ho0) hb); have n2_ := Aside0.mk (Kd.R_lower (Kd.R_new' (Kd.R_new' ho0 (Kd.R_lt (kr HO_6.out))) (Kd.R_lt (kr HO_10.out))) (below_size (bp HB.out))); have n3_ := an0 HB hb; clear HO_6; clear HO_10; clear HB; have HO_6 := n0_; have HO_10 := n1_; have HO402 := n2_; have HB := n3_; clear n0_ n1_ n2_ n3_; (try clear hb); (try clear hb2); (try clear hk); (try clear hi); (try clear ho0)) | ((with_reducible refine gate_callee (f := 29) rfl ?_); refine gsl (some 98) rfl Try.func29 #[.slice A1 l1.length c1] rfl ?_; (with_reducible refine (laws_toChangeS.calls kj45 _ _ l1 t403 _ ?side1 ?side2 A70.out).mono ?_); (case side1 => exact cc (Kd.C_below HR1.out HB.out)); (case side2 => exact HC1.out); rintro e w77 ⟨v404, rfl, ho0, hb⟩; refine ⟨_, rfl, ?_⟩; have n0_ := Aside0.mk (Kd.R_below (kr HO_6.out) hb); have n1_ := Aside0.mk (Kd.R_below (kr HO_10.out) hb); have n2_ := Aside0.mk (Kd.R_below (kr HO402.out) hb); have n3_ := Aside0.mk (Kd.R_lower ho0 (below_size (bp HB.out))); have n4_ := an0 HB hb; clear HO_6; clear HO_10; clear HO402; clear HB; have HO_6 := n0_; have HO_10 := n1_; have HO402 := n2_; have HO405 := n3_; have HB := n4_; clear n0_ n1_ n2_ n3_ n4_; (try clear hb); (try clear hb2); (try clear hk); (try clear hi); (try clear ho0); obtain ⟨Ao78, co78, eo78⟩ := Kd.R_slice HO402.out; subst eo78; obtain ⟨Ao79, co79, eo79⟩ := Kd.R_slice HO405.out; subst eo79) | ((with_reducible refine gate_callee (f := 30) rfl ?_); refine gsl (some 99) rfl Try.func30 #[.slice Ao78 t400.length co78, .slice Ao79 t403.length co79] rfl ?_; (with_reducible refine (impl_ApplyFeed.calls kj45 _ _ t400 _ _ t403 t406 t407 _ ?side1 ?side2 ?side3 ?side4 A71.out).mono ?_); (case side1 => exact laws_FnExactApplyFeed.s0 HO402.out); (case side2 => exact (Kd.R_reads' HO402.out).2.1); (case side3 => exact laws_FnExactApplyFeed.s0 HO405.out); (case side4 => exact (Kd.R_reads' HO405.out).2.1); rintro e w80 ⟨v408, rfl, ho0, hb⟩; refine ⟨_, rfl, ?_⟩; have n0_ := Aside0.mk (Kd.R_elder' (kr HO_6.out) (Kd.R_base ho0) hb); have n1_ := Aside0.mk (Kd.R_elder' (kr HO_10.out) (Kd.R_base ho0) hb); have n2_ := Aside0.mk (Kd.R_elder' (kr HO402.out) (Kd.R_base ho0) hb); have n3_ := Aside0.mk (Kd.R_below (kr HO405.out) hb); have n4_ := Aside0.mk (Kd.R_lower (Kd.R_new' (Kd.R_new' (Kd.R_new' ho0 (Kd.R_lt (kr HO_6.out))) (Kd.R_lt (kr HO_10.out))) (Kd.R_lt (kr HO402.out))) (below_size (bp HB.out))); have n5_ := an0 HB hb; clear HO_6; clear HO_10; clear HO402; clear HO405; clear HB; have HO_6 := n0_; have HO_10 := n1_; have HO402 := n2_; have HO405 := n3_; have HO409 := n4_; have HB := n5_; clear n0_ n1_ n2_ n3_ n4_ n5_; (try clear hb); (try clear hb2); (try clear hk); (try clear hi); (try clear ho0)))
                          (try simp only [Act.put, List.setIfInBounds_toArray, List.set_cons_zero, List.set_cons_succ])
                          go_cut [110] (fun v110 wc => ∃ (kq : Nat) (x110_71 : Bool), v110 = .bool x110_71 ∧ Aside0 (laws_FnExactApplyFeed.j2 kq t398 t397 x110_71 = some r) ∧ Aside0 (kq ≤ kj45) ∧ Aside0 (Kd.R k29 29 wc w.heap.size (fun _ => True) (.slice Ao73 t379.length co73) t398) ∧ Aside0 (Below w.heap.size w wc))
                          case first =>
                            have H := HC72.out
                            clear HC72
                            replace H := Option.bind_eq_some_iff.mp H
                            obtain ⟨t410, A810, H⟩ := H
                            replace H : (if t410 = true then (laws_FnExactApplyFeed.j2 kj45 t398 t397 (t407 != t370)) else (laws_FnExactApplyFeed.j2 kj45 t398 t397 true)) = some r := H
                            have A81 := Aside0.mk A810
                            clear A810
                            by_cases c82 : t410 = true
                            · subst c82
                              have H1 : (laws_FnExactApplyFeed.j2 kj45 t398 t397 (t407 != t370)) = some r := by rw [if_pos rfl] at H; exact H
                              clear H
                              have H := H1
                              clear H1
                              have H' := Aside0.mk H
                              clear H
                              obtain ⟨Ao83, co83, eo83⟩ := Kd.R_slice HO409.out
                              subst eo83
                              obtain ⟨Ao84, co84, eo84⟩ := Kd.R_slice HO_6.out
                              subst eo84
                              go_wp2_with (first | ((with_reducible refine gate_callee (f := 31) rfl ?_); refine gsl (some 104) rfl Try.func31 #[.slice Ao83 t406.length co83, .slice Ao84 t369.length co84] rfl ?_; (with_reducible refine (laws_eqPairS.calls kj45 _ _ t406 _ _ t369 true _ ?side1 ?side2 ?side3 ?side4 A81.out).mono ?_); (case side1 => exact laws_FnExactApplyFeed.s0 HO409.out); (case side2 => exact (Kd.R_reads' HO409.out).2.1); (case side3 => exact laws_FnExactApplyFeed.s0 HO_6.out); (case side4 => exact (Kd.R_reads' HO_6.out).2.1); rintro e w85 ⟨rfl, hb⟩; refine ⟨_, rfl, ?_⟩; have n0_ := Aside0.mk (Kd.R_below (kr HO_6.out) hb); have n1_ := Aside0.mk (Kd.R_below (kr HO_10.out) hb); have n2_ := Aside0.mk (Kd.R_below (kr HO402.out) hb); have n3_ := Aside0.mk (Kd.R_below (kr HO405.out) hb); have n4_ := Aside0.mk (Kd.R_below (kr HO409.out) hb); have n5_ := an0 HB hb; clear HO_6; clear HO_10; clear HO402; clear HO405; clear HO409; clear HB; have HO_6 := n0_; have HO_10 := n1_; have HO402 := n2_; have HO405 := n3_; have HO409 := n4_; have HB := n5_; clear n0_ n1_ n2_ n3_ n4_ n5_; (try clear hb); (try clear hb2); (try clear hk); (try clear hi)))
                              go_meet
                              case rel => exact ⟨_, ((t407 != t370)), (by first | rfl | (simp; done) | (simp [*]; done) | (simp [bne_nil_, beq_nil_]; done)), H', ⟨by have := HJ15.out; have := HJ45.out; first | omega | exact Nat.le_refl _⟩, ⟨by (with_reducible repeat (first | apply Kd.R_alloc | apply Kd.R_drewN | apply Kd.R_drew)); exact Kd.R_mono HO_10.out (fun _ hk => trivial)⟩, ⟨bp HB.out⟩⟩
                            · replace c82 := Bool.eq_false_iff.mpr c82
                              subst c82
                              have H1 : (laws_FnExactApplyFeed.j2 kj45 t398 t397 true) = some r := by rw [if_neg (show ¬ (false = true) by decide)] at H; exact H
                              clear H
                              have H := H1
                              clear H1
                              have H' := Aside0.mk H
                              clear H
                              obtain ⟨Ao86, co86, eo86⟩ := Kd.R_slice HO409.out
                              subst eo86
                              obtain ⟨Ao87, co87, eo87⟩ := Kd.R_slice HO_6.out
                              subst eo87
                              go_wp2_with (first | ((with_reducible refine gate_callee (f := 31) rfl ?_); refine gsl (some 104) rfl Try.func31 #[.slice Ao86 t406.length co86, .slice Ao87 t369.length co87] rfl ?_; (with_reducible refine (laws_eqPairS.calls kj45 _ _ t406 _ _ t369 false _ ?side1 ?side2 ?side3 ?side4 A81.out).mono ?_); (case side1 => exact laws_FnExactApplyFeed.s0 HO409.out); (case side2 => exact (Kd.R_reads' HO409.out).2.1); (case side3 => exact laws_FnExactApplyFeed.s0 HO_6.out); (case side4 => exact (Kd.R_reads' HO_6.out).2.1); rintro e w88 ⟨rfl, hb⟩; refine ⟨_, rfl, ?_⟩; have n0_ := Aside0.mk (Kd.R_below (kr HO_6.out) hb); have n1_ := Aside0.mk (Kd.R_below (kr HO_10.out) hb); have n2_ := Aside0.mk (Kd.R_below (kr HO402.out) hb); have n3_ := Aside0.mk (Kd.R_below (kr HO405.out) hb); have n4_ := Aside0.mk (Kd.R_below (kr HO409.out) hb); have n5_ := an0 HB hb; clear HO_6; clear HO_10; clear HO402; clear HO405; clear HO409; clear HB; have HO_6 := n0_; have HO_10 := n1_; have HO402 := n2_; have HO405 := n3_; have HO409 := n4_; have HB := n5_; clear n0_ n1_ n2_ n3_ n4_ n5_; (try clear hb); (try clear hb2); (try clear hk); (try clear hi)))
                              go_meet
                              case rel => exact ⟨_, (true), (by first | rfl | (simp; done) | (simp [*]; done) | (simp [bne_nil_, beq_nil_]; done)), H', ⟨by have := HJ15.out; have := HJ45.out; first | omega | exact Nat.le_refl _⟩, ⟨by (with_reducible repeat (first | apply Kd.R_alloc | apply Kd.R_drewN | apply Kd.R_drew)); exact Kd.R_mono HO_10.out (fun _ hk => trivial)⟩, ⟨bp HB.out⟩⟩
                          case rest =>
                            clear HC72
                            try clear c1
                            try clear c2
                            try clear p2
                            try clear c3
                            try clear c4
                            try clear c4b0
                            try clear c5
                            try clear c6
                            try clear p6
                            try clear c7
                            try clear c7b0
                            try clear c8
                            try clear c25
                            try clear c26
                            try clear c27
                            try clear c28
                            try clear c29
                            try clear c30
                            try clear c31
                            try clear c32
                            try clear c33
                            try clear c34
                            try clear c35
                            try clear c37
                            try clear c40
                            try clear c43
                            try clear c55
                            try clear c55b0
                            try clear c57
                            try clear c64
                            try clear p64
                            try clear c67
                            try clear c67b0
                            try clear c68
                            try clear c68b0
                            try clear c68b1
                            try clear c82
                            try clear p2
                            try clear p6
                            obtain ⟨kq, x110_71, rfl, HA, HJ71, HO_10, HB⟩ := hcut
                            have hl10_71 := (Kd.R_reads' HO_10.out).1
                            rw [hl10_71] at HO_10
                            (try simp only [hl10_71])
                            cases kq with
                            | zero => exact absurd HA.out (by simp [laws_FnExactApplyFeed.j2])
                            | succ kj71 =>
                              have H := HA.out
                              clear HA
                              simp only [laws_FnExactApplyFeed.j2] at H
                              by_cases c89 : x110_71 = true
                              · subst c89
                                have H1 : (some false) = some r := by rw [if_pos rfl] at H; exact H
                                clear H
                                have H := H1
                                clear H1
                                obtain rfl := Option.some.inj H
                                exact absurd hrt.out (by simp)
                              · replace c89 := Bool.eq_false_iff.mpr c89
                                subst c89
                                have H1 : ((laws_heldPairS.f kj71 t398 1).bind fun t411 => (if t411 < 0 then (some false) else (if t411 = t397 then (some true) else (some false)))) = some r := by rw [if_neg (show ¬ (false = true) by decide)] at H; exact H
                                clear H
                                have H := H1
                                clear H1
                                replace H := Option.bind_eq_some_iff.mp H
                                obtain ⟨t411, A900, H⟩ := H
                                replace H : (if t411 < 0 then (some false) else (if t411 = t397 then (some true) else (some false))) = some r := H
                                have A90 := Aside0.mk A900
                                clear A900
                                by_cases c91 : t411 < 0
                                · rw [if_pos c91] at H
                                  have c91b0 : decide (t411 < 0) = true := decide_eq_true c91
                                  clear c91
                                  obtain rfl := Option.some.inj H
                                  exact absurd hrt.out (by simp)
                                · rw [if_neg c91] at H
                                  have c91b0 : decide (t411 < 0) = false := decide_eq_false c91
                                  clear c91
                                  by_cases c92 : t411 = t397
                                  · rw [if_pos c92] at H
                                    have c92b0 : (t411 == t397) = true := beq_iff_eq.mpr c92
                                    have c92b1 : (t411 != t397) = false := bne_eq_false_iff_eq.mpr c92
                                    clear c92
                                    obtain rfl := Option.some.inj H
                                    go_wp2_with (first | ((with_reducible refine gate_callee (f := 35) rfl ?_); refine gsl (some 113) rfl Try.func35 #[.slice Ao73 t398.length co73, .int .i64 1] rfl ?_; (with_reducible refine (laws_heldPairS.calls kj71 _ _ t398 1 t411 _ ?side1 ?side2 A90.out).mono ?_); (case side1 => exact laws_FnExactApplyFeed.s0 HO_10.out); (case side2 => exact (Kd.R_reads' HO_10.out).2.1); rintro e w93 ⟨rfl, hb⟩; refine ⟨_, rfl, ?_⟩; have n0_ := Aside0.mk (Kd.R_below (kr HO_10.out) hb); have n1_ := an0 HB hb; clear HO_10; clear HB; have HO_10 := n0_; have HB := n1_; clear n0_ n1_; (try clear hb); (try clear hb2); (try clear hk); (try clear hi)))
                                    go_ret
                                    exact ⟨fe, bp HB.out⟩
                                  · rw [if_neg c92] at H
                                    have c92b0 : (t411 == t397) = false := beq_eq_false_iff_ne.mpr c92
                                    have c92b1 : (t411 != t397) = true := bne_iff_ne.mpr c92
                                    obtain rfl := Option.some.inj H
                                    exact absurd hrt.out (by simp)
                        · rw [if_neg c68] at H
                          have c68b0 : (t399 == t397) = false := beq_eq_false_iff_ne.mpr c68
                          have c68b1 : (t399 != t397) = true := bne_iff_ne.mpr c68
                          obtain rfl := Option.some.inj H
                          exact absurd hrt.out (by simp)
              · replace c43 := Bool.eq_false_iff.mpr c43
                subst c43
                have H1 : (some false) = some r := by rw [if_neg (show ¬ (false = true) by decide)] at H; exact H
                clear H
                have H := H1
                clear H1
                obtain rfl := Option.some.inj H
                exact absurd hrt.out (by simp)
            · replace c40 := Bool.eq_false_iff.mpr c40
              subst c40
              have H1 : (some false) = some r := by rw [if_neg (show ¬ (false = true) by decide)] at H; exact H
              clear H
              have H := H1
              clear H1
              obtain rfl := Option.some.inj H
              exact absurd hrt.out (by simp)

end Go.Proofs.Ytfeeifefmenlmaa.PFnExactApplyFeed
