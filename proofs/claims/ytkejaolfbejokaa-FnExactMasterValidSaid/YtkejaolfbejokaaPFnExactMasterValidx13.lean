-- Written by a program of this session, in the manner of the kit's print (wip/pp.py): functions and their contracts.
import Derived.Test.YtkejaolfbejokaaPFnExactMasterValidx0
import Derived.Test.YtkejaolfbejokaaPFnExactMasterValidx2
import Derived.Test.YtkejaolfbejokaaPFnExactMasterValidx5
import Derived.Test.YtkejaolfbejokaaPFnExactMasterValidx6
import Derived.Test.YtkejaolfbejokaaPFnExactMasterValidx11
import Derived.Test.YtkejaolfbejokaaPFnExactMasterValidx12
namespace Go.Proofs.Ytkejaolfbejokaa.PFnExactMasterValid
open Go.RowKit Go.Proofs.YtkejaolfbejokaaW.PrintWords Go.Proofs.YtkejaolfbejokaaW.PrintLast Go.Proofs.YtkejaolfbejokaaW.PrintMore
attribute [local go_sem] binOp_leq_str binOp_gtr_str binOp_geq_str max2_int min2_int max_two min_two max_three min_three max_four min_four   -- for this text's walks alone
set_option linter.unusedVariables false
set_option linter.unusedSimpArgs false

/-! ### laws_FnExactMasterValid: function 9 -/
def laws_FnExactMasterValid.f (k : Nat) (l0_0 : List (S162)) (a0_1 : Int) (a0_2 : Int) (a0_3 : Int) (a0_4 : Int) (a0_5 : ByteArray) (a0_6 : Int) (a0_7 : Int) (a0_8 : Int) (a0_9 : Int) : Option (Bool) := (laws_szMaster.f k l0_0 a0_1 a0_2 a0_3 a0_4 a0_5 a0_6 a0_7 a0_8 a0_9 1048576).bind fun t260 => (if t260 < 0 then (some true) else ((laws_toMaster.f k l0_0 a0_1 a0_2 a0_3 a0_4 a0_5 a0_6 a0_7 a0_8 a0_9).bind fun bt261 => ((spec_MasterValid.f k bt261.1 bt261.2.1 bt261.2.2.1 bt261.2.2.2.1 bt261.2.2.2.2.1 bt261.2.2.2.2.2.1 bt261.2.2.2.2.2.2.1 bt261.2.2.2.2.2.2.2.1 bt261.2.2.2.2.2.2.2.2.1 bt261.2.2.2.2.2.2.2.2.2).bind fun t273 => ((laws_toMaster.f k l0_0 a0_1 a0_2 a0_3 a0_4 a0_5 a0_6 a0_7 a0_8 a0_9).bind fun bt274 => ((impl_MasterValid.f k bt274.1 bt274.2.1 bt274.2.2.1 bt274.2.2.2.1 bt274.2.2.2.2.1 bt274.2.2.2.2.2.1 bt274.2.2.2.2.2.2.1 bt274.2.2.2.2.2.2.2.1 bt274.2.2.2.2.2.2.2.2.1 bt274.2.2.2.2.2.2.2.2.2).bind fun t287 => (if (t287 != t273) = true then (some false) else ((laws_toMaster.f k l0_0 a0_1 a0_2 a0_3 a0_4 a0_5 a0_6 a0_7 a0_8 a0_9).bind fun bt288 => ((laws_eqMaster.f k bt274.1 bt274.2.1 bt274.2.2.1 bt274.2.2.2.1 bt274.2.2.2.2.1 bt274.2.2.2.2.2.1 bt274.2.2.2.2.2.2.1 bt274.2.2.2.2.2.2.2.1 bt274.2.2.2.2.2.2.2.2.1 bt274.2.2.2.2.2.2.2.2.2 bt288.1 bt288.2.1 bt288.2.2.1 bt288.2.2.2.1 bt288.2.2.2.2.1 bt288.2.2.2.2.2.1 bt288.2.2.2.2.2.2.1 bt288.2.2.2.2.2.2.2.1 bt288.2.2.2.2.2.2.2.2.1 bt288.2.2.2.2.2.2.2.2.2).bind fun t300 => (if t300 = true then (some true) else (some false))))))))))
theorem laws_FnExactMasterValid.mono : ∀ a0 a1 a2 a3 a4 a5 a6 a7 a8 a9 k, LeO (laws_FnExactMasterValid.f k a0 a1 a2 a3 a4 a5 a6 a7 a8 a9) (laws_FnExactMasterValid.f (k + 1) a0 a1 a2 a3 a4 a5 a6 a7 a8 a9) := by
  intro a0 a1 a2 a3 a4 a5 a6 a7 a8 a9 k
  unfold laws_FnExactMasterValid.f
  repeat' first
      | (with_reducible exact impl_MasterValid.mono _ _ _ _ _ _ _ _ _ _ _)
      | (with_reducible exact laws_eqMaster.mono _ _ _ _ _ _ _ _ _ _ _ _ _ _ _ _ _ _ _ _ _)
      | (with_reducible exact laws_szMaster.mono _ _ _ _ _ _ _ _ _ _ _ _)
      | (with_reducible exact laws_toMaster.mono _ _ _ _ _ _ _ _ _ _ _)
      | (with_reducible exact spec_MasterValid.mono _ _ _ _ _ _ _ _ _ _ _)
      | (with_reducible exact LeO.refl _)
      | (with_reducible exact LeO.none _)
      | (with_reducible refine LeO.ite ?_ ?_)
      | (with_reducible refine LeO.bind ?_ (fun _ => ?_))
      | exact impl_MasterValid.mono _ _ _ _ _ _ _ _ _ _ _
      | exact laws_eqMaster.mono _ _ _ _ _ _ _ _ _ _ _ _ _ _ _ _ _ _ _ _ _
      | exact laws_szMaster.mono _ _ _ _ _ _ _ _ _ _ _ _
      | exact laws_toMaster.mono _ _ _ _ _ _ _ _ _ _ _
      | exact spec_MasterValid.mono _ _ _ _ _ _ _ _ _ _ _
      | exact LeO.none _
      | refine LeO.ite ?_ ?_
      | refine LeO.bind ?_ (fun _ => ?_)
set_option maxHeartbeats 8000000 in
set_option maxRecDepth 100000 in
theorem laws_FnExactMasterValid.calls (k : Nat) (A0_0 : Option Addr) (c0_0 : Nat) (l0_0 : List (S162)) (a0_1 : Int) (a0_2 : Int) (a0_3 : Int) (a0_4 : Int) (a0_5 : ByteArray) (a0_6 : Int) (a0_7 : Int) (a0_8 : Int) (a0_9 : Int) (r : Bool) (w : World) (hr0_0 : Kd.C k162 w A0_0 l0_0.length l0_0) (hc0_0 : l0_0.length ≤ c0_0) (h : laws_FnExactMasterValid.f k l0_0 a0_1 a0_2 a0_3 a0_4 a0_5 a0_6 a0_7 a0_8 a0_9 = some r) (hrt : Aside0 (r = true)) :
    Calls Try.prog 9 #[.agg #[.slice A0_0 l0_0.length c0_0, .int .i64 a0_1, .int .i64 a0_2, .int .i64 a0_3, .int .i64 a0_4, .string a0_5, .int .i64 a0_6, .int .i64 a0_7, .int .i64 a0_8, .int .i64 a0_9]] w fun e w' => e = .returned (.bool r) ∧ Below w.heap.size w w' := by
  have hu60 := Try.underlying60
  have hu66 := Try.underlying66
  have HR0_0 := Aside0.mk hr0_0
  have HC0_0 := Aside0.mk hc0_0
  clear hr0_0 hc0_0
  have HB := Aside0.mk (Below.refl w.heap.size w)
  have H : ((laws_szMaster.f k l0_0 a0_1 a0_2 a0_3 a0_4 a0_5 a0_6 a0_7 a0_8 a0_9 1048576).bind fun t260 => (if t260 < 0 then (some true) else ((laws_toMaster.f k l0_0 a0_1 a0_2 a0_3 a0_4 a0_5 a0_6 a0_7 a0_8 a0_9).bind fun bt261 => ((spec_MasterValid.f k bt261.1 bt261.2.1 bt261.2.2.1 bt261.2.2.2.1 bt261.2.2.2.2.1 bt261.2.2.2.2.2.1 bt261.2.2.2.2.2.2.1 bt261.2.2.2.2.2.2.2.1 bt261.2.2.2.2.2.2.2.2.1 bt261.2.2.2.2.2.2.2.2.2).bind fun t273 => ((laws_toMaster.f k l0_0 a0_1 a0_2 a0_3 a0_4 a0_5 a0_6 a0_7 a0_8 a0_9).bind fun bt274 => ((impl_MasterValid.f k bt274.1 bt274.2.1 bt274.2.2.1 bt274.2.2.2.1 bt274.2.2.2.2.1 bt274.2.2.2.2.2.1 bt274.2.2.2.2.2.2.1 bt274.2.2.2.2.2.2.2.1 bt274.2.2.2.2.2.2.2.2.1 bt274.2.2.2.2.2.2.2.2.2).bind fun t287 => (if (t287 != t273) = true then (some false) else ((laws_toMaster.f k l0_0 a0_1 a0_2 a0_3 a0_4 a0_5 a0_6 a0_7 a0_8 a0_9).bind fun bt288 => ((laws_eqMaster.f k bt274.1 bt274.2.1 bt274.2.2.1 bt274.2.2.2.1 bt274.2.2.2.2.1 bt274.2.2.2.2.2.1 bt274.2.2.2.2.2.2.1 bt274.2.2.2.2.2.2.2.1 bt274.2.2.2.2.2.2.2.2.1 bt274.2.2.2.2.2.2.2.2.2 bt288.1 bt288.2.1 bt288.2.2.1 bt288.2.2.2.1 bt288.2.2.2.2.1 bt288.2.2.2.2.2.1 bt288.2.2.2.2.2.2.1 bt288.2.2.2.2.2.2.2.1 bt288.2.2.2.2.2.2.2.2.1 bt288.2.2.2.2.2.2.2.2.2).bind fun t300 => (if t300 = true then (some true) else (some false))))))))))) = some r := h
  clear h
  replace H := Option.bind_eq_some_iff.mp H
  obtain ⟨t260, A20, H⟩ := H
  replace H : (if t260 < 0 then (some true) else ((laws_toMaster.f k l0_0 a0_1 a0_2 a0_3 a0_4 a0_5 a0_6 a0_7 a0_8 a0_9).bind fun bt261 => ((spec_MasterValid.f k bt261.1 bt261.2.1 bt261.2.2.1 bt261.2.2.2.1 bt261.2.2.2.2.1 bt261.2.2.2.2.2.1 bt261.2.2.2.2.2.2.1 bt261.2.2.2.2.2.2.2.1 bt261.2.2.2.2.2.2.2.2.1 bt261.2.2.2.2.2.2.2.2.2).bind fun t273 => ((laws_toMaster.f k l0_0 a0_1 a0_2 a0_3 a0_4 a0_5 a0_6 a0_7 a0_8 a0_9).bind fun bt274 => ((impl_MasterValid.f k bt274.1 bt274.2.1 bt274.2.2.1 bt274.2.2.2.1 bt274.2.2.2.2.1 bt274.2.2.2.2.2.1 bt274.2.2.2.2.2.2.1 bt274.2.2.2.2.2.2.2.1 bt274.2.2.2.2.2.2.2.2.1 bt274.2.2.2.2.2.2.2.2.2).bind fun t287 => (if (t287 != t273) = true then (some false) else ((laws_toMaster.f k l0_0 a0_1 a0_2 a0_3 a0_4 a0_5 a0_6 a0_7 a0_8 a0_9).bind fun bt288 => ((laws_eqMaster.f k bt274.1 bt274.2.1 bt274.2.2.1 bt274.2.2.2.1 bt274.2.2.2.2.1 bt274.2.2.2.2.2.1 bt274.2.2.2.2.2.2.1 bt274.2.2.2.2.2.2.2.1 bt274.2.2.2.2.2.2.2.2.1 bt274.2.2.2.2.2.2.2.2.2 bt288.1 bt288.2.1 bt288.2.2.1 bt288.2.2.2.1 bt288.2.2.2.2.1 bt288.2.2.2.2.2.1 bt288.2.2.2.2.2.2.1 bt288.2.2.2.2.2.2.2.1 bt288.2.2.2.2.2.2.2.2.1 bt288.2.2.2.2.2.2.2.2.2).bind fun t300 => (if t300 = true then (some true) else (some false)))))))))) = some r := H
  have A2 := Aside0.mk A20
  clear A20
  by_cases c3 : t260 < 0
  · rw [if_pos c3] at H
    have c3b0 : decide (t260 < 0) = true := decide_eq_true c3
    clear c3
    obtain rfl := Option.some.inj H
    go_enter Try.func9, Try.ntmps9
    go_wp2_with (first | ((with_reducible refine gate_dst (N := 1) rfl ?_); refine bxe (N := 1) (cs := #[.slice A0_0 l0_0.length c0_0, .int .i64 a0_1, .int .i64 a0_2, .int .i64 a0_3, .int .i64 a0_4, .string a0_5, .int .i64 a0_6, .int .i64 a0_7, .int .i64 a0_8, .int .i64 a0_9]) (t := 60) ?_; intro gb259 hg w4 hbox hb; have BK259 := Aside0.mk (hbox); have GW259 := an2 HB hg; have GE259 := an2 HB hg; replace HB := an0 HB hb; clear hb hbox hg; obtain ⟨hcz5_0, hcz5_1, hcz5_2, hcz5_3, hcz5_4, hcz5_5, hcz5_6, hcz5_7, hcz5_8, hcz5_9, hfz5_0, hfz5_1, hfz5_2, hfz5_3, hfz5_4, hfz5_5, hfz5_6, hfz5_7, hfz5_8, hfz5_9⟩ := cl10 BK259) | ((with_reducible refine gate_callee (f := 41) rfl ?_); refine gsl (some 9) rfl Try.func41 #[.agg #[.slice A0_0 l0_0.length c0_0, .int .i64 a0_1, .int .i64 a0_2, .int .i64 a0_3, .int .i64 a0_4, .string a0_5, .int .i64 a0_6, .int .i64 a0_7, .int .i64 a0_8, .int .i64 a0_9], .int .i64 1048576] rfl ?_; (with_reducible refine (laws_szMaster.calls k _ _ l0_0 a0_1 a0_2 a0_3 a0_4 a0_5 a0_6 a0_7 a0_8 a0_9 1048576 t260 _ ?side1 ?side2 A2.out).mono ?_); (case side1 => exact cc (Kd.C_below HR0_0.out HB.out)); (case side2 => exact HC0_0.out); rintro e w6 ⟨rfl, hb⟩; refine ⟨_, rfl, ?_⟩; replace BK259 := an1 BK259 hb; replace HB := an0 HB hb; (try clear hb); (try clear hb2); (try clear hk); (try clear hi)))
    go_ret
    exact ⟨fe, bp HB.out⟩
  · rw [if_neg c3] at H
    have c3b0 : decide (t260 < 0) = false := decide_eq_false c3
    clear c3
    replace H := Option.bind_eq_some_iff.mp H
    obtain ⟨⟨t261, t264, t265, t266, t267, t268, t269, t270, t271, t272⟩, A70, H⟩ := H
    replace H : ((spec_MasterValid.f k t261 t264 t265 t266 t267 t268 t269 t270 t271 t272).bind fun t273 => ((laws_toMaster.f k l0_0 a0_1 a0_2 a0_3 a0_4 a0_5 a0_6 a0_7 a0_8 a0_9).bind fun bt274 => ((impl_MasterValid.f k bt274.1 bt274.2.1 bt274.2.2.1 bt274.2.2.2.1 bt274.2.2.2.2.1 bt274.2.2.2.2.2.1 bt274.2.2.2.2.2.2.1 bt274.2.2.2.2.2.2.2.1 bt274.2.2.2.2.2.2.2.2.1 bt274.2.2.2.2.2.2.2.2.2).bind fun t287 => (if (t287 != t273) = true then (some false) else ((laws_toMaster.f k l0_0 a0_1 a0_2 a0_3 a0_4 a0_5 a0_6 a0_7 a0_8 a0_9).bind fun bt288 => ((laws_eqMaster.f k bt274.1 bt274.2.1 bt274.2.2.1 bt274.2.2.2.1 bt274.2.2.2.2.1 bt274.2.2.2.2.2.1 bt274.2.2.2.2.2.2.1 bt274.2.2.2.2.2.2.2.1 bt274.2.2.2.2.2.2.2.2.1 bt274.2.2.2.2.2.2.2.2.2 bt288.1 bt288.2.1 bt288.2.2.1 bt288.2.2.2.1 bt288.2.2.2.2.1 bt288.2.2.2.2.2.1 bt288.2.2.2.2.2.2.1 bt288.2.2.2.2.2.2.2.1 bt288.2.2.2.2.2.2.2.2.1 bt288.2.2.2.2.2.2.2.2.2).bind fun t300 => (if t300 = true then (some true) else (some false)))))))) = some r := H
    have A7 := Aside0.mk A70
    clear A70
    replace H := Option.bind_eq_some_iff.mp H
    obtain ⟨t273, A80, H⟩ := H
    replace H : ((laws_toMaster.f k l0_0 a0_1 a0_2 a0_3 a0_4 a0_5 a0_6 a0_7 a0_8 a0_9).bind fun bt274 => ((impl_MasterValid.f k bt274.1 bt274.2.1 bt274.2.2.1 bt274.2.2.2.1 bt274.2.2.2.2.1 bt274.2.2.2.2.2.1 bt274.2.2.2.2.2.2.1 bt274.2.2.2.2.2.2.2.1 bt274.2.2.2.2.2.2.2.2.1 bt274.2.2.2.2.2.2.2.2.2).bind fun t287 => (if (t287 != t273) = true then (some false) else ((laws_toMaster.f k l0_0 a0_1 a0_2 a0_3 a0_4 a0_5 a0_6 a0_7 a0_8 a0_9).bind fun bt288 => ((laws_eqMaster.f k bt274.1 bt274.2.1 bt274.2.2.1 bt274.2.2.2.1 bt274.2.2.2.2.1 bt274.2.2.2.2.2.1 bt274.2.2.2.2.2.2.1 bt274.2.2.2.2.2.2.2.1 bt274.2.2.2.2.2.2.2.2.1 bt274.2.2.2.2.2.2.2.2.2 bt288.1 bt288.2.1 bt288.2.2.1 bt288.2.2.2.1 bt288.2.2.2.2.1 bt288.2.2.2.2.2.1 bt288.2.2.2.2.2.2.1 bt288.2.2.2.2.2.2.2.1 bt288.2.2.2.2.2.2.2.2.1 bt288.2.2.2.2.2.2.2.2.2).bind fun t300 => (if t300 = true then (some true) else (some false))))))) = some r := H
    have A8 := Aside0.mk A80
    clear A80
    replace H := Option.bind_eq_some_iff.mp H
    obtain ⟨⟨t274, t277, t278, t279, t280, t281, t282, t283, t284, t285⟩, A90, H⟩ := H
    replace H : ((impl_MasterValid.f k t274 t277 t278 t279 t280 t281 t282 t283 t284 t285).bind fun t287 => (if (t287 != t273) = true then (some false) else ((laws_toMaster.f k l0_0 a0_1 a0_2 a0_3 a0_4 a0_5 a0_6 a0_7 a0_8 a0_9).bind fun bt288 => ((laws_eqMaster.f k t274 t277 t278 t279 t280 t281 t282 t283 t284 t285 bt288.1 bt288.2.1 bt288.2.2.1 bt288.2.2.2.1 bt288.2.2.2.2.1 bt288.2.2.2.2.2.1 bt288.2.2.2.2.2.2.1 bt288.2.2.2.2.2.2.2.1 bt288.2.2.2.2.2.2.2.2.1 bt288.2.2.2.2.2.2.2.2.2).bind fun t300 => (if t300 = true then (some true) else (some false)))))) = some r := H
    have A9 := Aside0.mk A90
    clear A90
    replace H := Option.bind_eq_some_iff.mp H
    obtain ⟨t287, A100, H⟩ := H
    replace H : (if (t287 != t273) = true then (some false) else ((laws_toMaster.f k l0_0 a0_1 a0_2 a0_3 a0_4 a0_5 a0_6 a0_7 a0_8 a0_9).bind fun bt288 => ((laws_eqMaster.f k t274 t277 t278 t279 t280 t281 t282 t283 t284 t285 bt288.1 bt288.2.1 bt288.2.2.1 bt288.2.2.2.1 bt288.2.2.2.2.1 bt288.2.2.2.2.2.1 bt288.2.2.2.2.2.2.1 bt288.2.2.2.2.2.2.2.1 bt288.2.2.2.2.2.2.2.2.1 bt288.2.2.2.2.2.2.2.2.2).bind fun t300 => (if t300 = true then (some true) else (some false))))) = some r := H
    have A10 := Aside0.mk A100
    clear A100
    by_cases c11 : (t287 != t273) = true
    · rw [if_pos c11] at H
      have c11b0 : (t287 != t273) = true := c11
      (try (have c11b1 : decide (t287 = t273) = false := by simpa using c11))
      (try (have c11b2 : (t287 == t273) = false := by simpa using c11))
      (try (have c11b3 : ¬ (t287 = t273) := by simpa using c11))
      clear c11
      obtain rfl := Option.some.inj H
      exact absurd hrt.out (by simp)
    · rw [if_neg c11] at H
      have c11b0 : (t287 != t273) = false := by simpa using c11
      (try (have c11b1 : decide (t287 = t273) = true := by simpa using c11))
      (try (have c11b2 : (t287 == t273) = true := by simpa using c11))
      clear c11
      replace H := Option.bind_eq_some_iff.mp H
      obtain ⟨⟨t288, t291, t292, t293, t294, t295, t296, t297, t298, t299⟩, A120, H⟩ := H
      replace H : ((laws_eqMaster.f k t274 t277 t278 t279 t280 t281 t282 t283 t284 t285 t288 t291 t292 t293 t294 t295 t296 t297 t298 t299).bind fun t300 => (if t300 = true then (some true) else (some false))) = some r := H
      have A12 := Aside0.mk A120
      clear A120
      replace H := Option.bind_eq_some_iff.mp H
      obtain ⟨t300, A130, H⟩ := H
      replace H : (if t300 = true then (some true) else (some false)) = some r := H
      have A13 := Aside0.mk A130
      clear A130
      by_cases c14 : t300 = true
      · subst c14
        have H1 : (some true) = some r := by rw [if_pos rfl] at H; exact H
        clear H
        have H := H1
        clear H1
        obtain rfl := Option.some.inj H
        go_enter Try.func9, Try.ntmps9
        try go_wp2_with (first | ((with_reducible refine gate_dst (N := 1) rfl ?_); refine bxe (N := 1) (cs := #[.slice A0_0 l0_0.length c0_0, .int .i64 a0_1, .int .i64 a0_2, .int .i64 a0_3, .int .i64 a0_4, .string a0_5, .int .i64 a0_6, .int .i64 a0_7, .int .i64 a0_8, .int .i64 a0_9]) (t := 60) ?_; intro gb259 hg w15 hbox hb; have BK259 := Aside0.mk (hbox); have GW259 := an2 HB hg; have GE259 := an2 HB hg; replace HB := an0 HB hb; clear hb hbox hg; obtain ⟨hcz16_0, hcz16_1, hcz16_2, hcz16_3, hcz16_4, hcz16_5, hcz16_6, hcz16_7, hcz16_8, hcz16_9, hfz16_0, hfz16_1, hfz16_2, hfz16_3, hfz16_4, hfz16_5, hfz16_6, hfz16_7, hfz16_8, hfz16_9⟩ := cl10 BK259) | ((with_reducible refine gate_callee (f := 41) rfl ?_); refine gsl (some 9) rfl Try.func41 #[.agg #[.slice A0_0 l0_0.length c0_0, .int .i64 a0_1, .int .i64 a0_2, .int .i64 a0_3, .int .i64 a0_4, .string a0_5, .int .i64 a0_6, .int .i64 a0_7, .int .i64 a0_8, .int .i64 a0_9], .int .i64 1048576] rfl ?_; (with_reducible refine (laws_szMaster.calls k _ _ l0_0 a0_1 a0_2 a0_3 a0_4 a0_5 a0_6 a0_7 a0_8 a0_9 1048576 t260 _ ?side1 ?side2 A2.out).mono ?_); (case side1 => exact cc (Kd.C_below HR0_0.out HB.out)); (case side2 => exact HC0_0.out); rintro e w17 ⟨rfl, hb⟩; refine ⟨_, rfl, ?_⟩; replace BK259 := an1 BK259 hb; replace HB := an0 HB hb; (try clear hb); (try clear hb2); (try clear hk); (try clear hi); obtain ⟨hcz18_0, hcz18_1, hcz18_2, hcz18_3, hcz18_4, hcz18_5, hcz18_6, hcz18_7, hcz18_8, hcz18_9, hfz18_0, hfz18_1, hfz18_2, hfz18_3, hfz18_4, hfz18_5, hfz18_6, hfz18_7, hfz18_8, hfz18_9⟩ := cl10 BK259) | ((with_reducible refine gate_callee (f := 43) rfl ?_); refine gsl (some 13) rfl Try.func43 #[.agg #[.slice A0_0 l0_0.length c0_0, .int .i64 a0_1, .int .i64 a0_2, .int .i64 a0_3, .int .i64 a0_4, .string a0_5, .int .i64 a0_6, .int .i64 a0_7, .int .i64 a0_8, .int .i64 a0_9]] rfl ?_; (with_reducible refine (laws_toMaster.calls k _ _ l0_0 a0_1 a0_2 a0_3 a0_4 a0_5 a0_6 a0_7 a0_8 a0_9 t261 t264 t265 t266 t267 t268 t269 t270 t271 t272 _ ?side1 ?side2 A7.out).mono ?_); (case side1 => exact cc (Kd.C_below HR0_0.out HB.out)); (case side2 => exact HC0_0.out); rintro e w19 ⟨v262, rfl, ho0, hb⟩; refine ⟨_, rfl, ?_⟩; have n0_ := Aside0.mk (Kd.R_lower ho0 (below_size (bp HB.out))); have n1_ := an1 BK259 hb; have n2_ := an0 HB hb; clear BK259; clear HB; have HO263 := n0_; have BK259 := n1_; have HB := n2_; clear n0_ n1_ n2_; (try clear hb); (try clear hb2); (try clear hk); (try clear hi); (try clear ho0); obtain ⟨Ao20, co20, eo20⟩ := Kd.R_slice HO263.out; subst eo20) | ((with_reducible refine gate_callee (f := 42) rfl ?_); refine gsl (some 14) rfl Try.func42 #[.agg #[.slice Ao20 t261.length co20, .int .i64 t264, .int .i64 t265, .int .i64 t266, .int .i64 t267, .string t268, .int .i64 t269, .int .i64 t270, .int .i64 t271, .int .i64 t272]] rfl ?_; (with_reducible refine (spec_MasterValid.calls k _ _ t261 t264 t265 t266 t267 t268 t269 t270 t271 t272 t273 _ ?side1 ?side2 A8.out).mono ?_); (case side1 => repeat (first | exact (Kd.R_reads' HO263.out).2.2 | (with_reducible refine Kd.C_alloc ?_ _) | (with_reducible refine Kd.C_drewN ?_ _) | (with_reducible refine Kd.C_drew ?_))); (case side2 => exact (Kd.R_reads' HO263.out).2.1); rintro e w21 ⟨rfl, hb⟩; refine ⟨_, rfl, ?_⟩; have n0_ := Aside0.mk (Kd.R_below (kr (HO263.out)) hb); have n1_ := an1 BK259 hb; have n2_ := an0 HB hb; clear HO263; clear BK259; clear HB; have HO263 := n0_; have BK259 := n1_; have HB := n2_; clear n0_ n1_ n2_; (try clear hb); (try clear hb2); (try clear hk); (try clear hi); obtain ⟨hcz22_0, hcz22_1, hcz22_2, hcz22_3, hcz22_4, hcz22_5, hcz22_6, hcz22_7, hcz22_8, hcz22_9, hfz22_0, hfz22_1, hfz22_2, hfz22_3, hfz22_4, hfz22_5, hfz22_6, hfz22_7, hfz22_8, hfz22_9⟩ := cl10 BK259) | ((with_reducible refine gate_callee (f := 43) rfl ?_); refine gsl (some 16) rfl Try.func43 #[.agg #[.slice A0_0 l0_0.length c0_0, .int .i64 a0_1, .int .i64 a0_2, .int .i64 a0_3, .int .i64 a0_4, .string a0_5, .int .i64 a0_6, .int .i64 a0_7, .int .i64 a0_8, .int .i64 a0_9]] rfl ?_; (with_reducible refine (laws_toMaster.calls k _ _ l0_0 a0_1 a0_2 a0_3 a0_4 a0_5 a0_6 a0_7 a0_8 a0_9 t274 t277 t278 t279 t280 t281 t282 t283 t284 t285 _ ?side1 ?side2 A9.out).mono ?_); (case side1 => exact cc (Kd.C_below HR0_0.out HB.out)); (case side2 => exact HC0_0.out); rintro e w23 ⟨v275, rfl, ho0, hb⟩; refine ⟨_, rfl, ?_⟩; have n0_ := Aside0.mk (Kd.R_elder' (kr (HO263.out)) (Kd.R_base ho0) hb); have n1_ := Aside0.mk (Kd.R_lower (Kd.R_new' ho0 (Kd.R_lt (kr (HO263.out)))) (below_size (bp HB.out))); have n2_ := an1 BK259 hb; have n3_ := an0 HB hb; clear HO263; clear BK259; clear HB; have HO263 := n0_; have HO276 := n1_; have BK259 := n2_; have HB := n3_; clear n0_ n1_ n2_ n3_; (try clear hb); (try clear hb2); (try clear hk); (try clear hi); (try clear ho0)) | ((with_reducible refine gate_dst (N := 5) rfl ?_); refine bxe (N := 5) (cs := #[.slice none 0 0, .int .i64 0, .int .i64 0, .int .i64 0, .int .i64 0, .string (⟨#[]⟩ : ByteArray), .int .i64 0, .int .i64 0, .int .i64 0, .int .i64 0]) (t := 66) ?_; intro gb286 hg w24 hbox hb; have n0_ := Aside0.mk (Kd.R_below (kr (HO263.out)) hb); have n1_ := Aside0.mk (Kd.R_below (kr (HO276.out)) hb); have n2_ := an1 BK259 hb; have n3_ := an0 HB hb; have n4_ := Aside0.mk (hbox); have n5_ := an2 HB hg; have n6_ := an2 HB hg; have n7_ := an3 BK259 hg; have n8_ := an4 BK259 hg; clear HO263; clear HO276; clear BK259; clear HB; have HO263 := n0_; have HO276 := n1_; have BK259 := n2_; have HB := n3_; have BK286 := n4_; have GW286 := n5_; have GE286 := n6_; have NB259_286 := n7_; have NB286_259 := n8_; clear n0_ n1_ n2_ n3_ n4_ n5_ n6_ n7_ n8_; clear hb hbox hg; obtain ⟨Ao25, co25, eo25⟩ := Kd.R_slice HO276.out; subst eo25; have hnb26 := NB286_259.out; have hnc26 := NB259_286.out; obtain ⟨hcz27_0, hcz27_1, hcz27_2, hcz27_3, hcz27_4, hcz27_5, hcz27_6, hcz27_7, hcz27_8, hcz27_9, hfz27_0, hfz27_1, hfz27_2, hfz27_3, hfz27_4, hfz27_5, hfz27_6, hfz27_7, hfz27_8, hfz27_9⟩ := cl10 BK286) | ((with_reducible refine gate_callee (f := 44) rfl ?_); refine gsl (some 18) rfl Try.func44 #[.agg #[.slice Ao25 t274.length co25, .int .i64 t277, .int .i64 t278, .int .i64 t279, .int .i64 t280, .string t281, .int .i64 t282, .int .i64 t283, .int .i64 t284, .int .i64 t285]] rfl ?_; (with_reducible refine (impl_MasterValid.calls k _ _ t274 t277 t278 t279 t280 t281 t282 t283 t284 t285 t287 _ ?side1 ?side2 A10.out).mono ?_); (case side1 => refine (Kd.R_reads' (e := 129) (base := w.heap.size) (ok := fun k_ => (True ∧ some k_ ≠ (.slice Ao20 t261.length co20 : Value).ownBlock)) (n := t274.length) (c := co25) ?_).2.2; exact (by (with_reducible repeat (first | apply Kd.R_alloc | apply Kd.R_drewN | apply Kd.R_drew)); exact (Kd.R_mono (Kd.R_far (p := ⟨gb286, 9, none⟩) (Kd.R_far (p := ⟨gb286, 8, none⟩) (Kd.R_far (p := ⟨gb286, 7, none⟩) (Kd.R_far (p := ⟨gb286, 6, none⟩) (Kd.R_far (p := ⟨gb286, 5, none⟩) (Kd.R_far (p := ⟨gb286, 4, none⟩) (Kd.R_far (p := ⟨gb286, 3, none⟩) (Kd.R_far (p := ⟨gb286, 2, none⟩) (Kd.R_far (p := ⟨gb286, 1, none⟩) (Kd.R_far (p := ⟨gb286, 0, none⟩) (Kd.R_types HO276.out BK286.out (by decide)) (fun _ hk => hk.2) (.slice Ao25 t274.length co25)) (fun _ hk => hk.2) (.int .i64 t277)) (fun _ hk => hk.2) (.int .i64 t278)) (fun _ hk => hk.2) (.int .i64 t279)) (fun _ hk => hk.2) (.int .i64 t280)) (fun _ hk => hk.2) (.string t281)) (fun _ hk => hk.2) (.int .i64 t282)) (fun _ hk => hk.2) (.int .i64 t283)) (fun _ hk => hk.2) (.int .i64 t284)) (fun _ hk => hk.2) (.int .i64 t285)) (fun _ h_ => h_.1)))); (case side2 => exact (Kd.R_reads' HO276.out).2.1); rintro e w28 ⟨rfl, hb⟩; refine ⟨_, rfl, ?_⟩; have n0_ := Aside0.mk (Kd.R_below (by (with_reducible repeat (first | apply Kd.R_alloc | apply Kd.R_drewN | apply Kd.R_drew)); exact (Kd.R_mono (Kd.R_far (p := ⟨gb286, 9, none⟩) (Kd.R_far (p := ⟨gb286, 8, none⟩) (Kd.R_far (p := ⟨gb286, 7, none⟩) (Kd.R_far (p := ⟨gb286, 6, none⟩) (Kd.R_far (p := ⟨gb286, 5, none⟩) (Kd.R_far (p := ⟨gb286, 4, none⟩) (Kd.R_far (p := ⟨gb286, 3, none⟩) (Kd.R_far (p := ⟨gb286, 2, none⟩) (Kd.R_far (p := ⟨gb286, 1, none⟩) (Kd.R_far (p := ⟨gb286, 0, none⟩) (Kd.R_types HO263.out BK286.out (by decide)) (fun _ hk => hk.2) (.slice Ao25 t274.length co25)) (fun _ hk => hk.2) (.int .i64 t277)) (fun _ hk => hk.2) (.int .i64 t278)) (fun _ hk => hk.2) (.int .i64 t279)) (fun _ hk => hk.2) (.int .i64 t280)) (fun _ hk => hk.2) (.string t281)) (fun _ hk => hk.2) (.int .i64 t282)) (fun _ hk => hk.2) (.int .i64 t283)) (fun _ hk => hk.2) (.int .i64 t284)) (fun _ hk => hk.2) (.int .i64 t285)) (fun _ h_ => h_.1))) hb); have n1_ := Aside0.mk (Kd.R_below (by (with_reducible repeat (first | apply Kd.R_alloc | apply Kd.R_drewN | apply Kd.R_drew)); exact (Kd.R_mono (Kd.R_far (p := ⟨gb286, 9, none⟩) (Kd.R_far (p := ⟨gb286, 8, none⟩) (Kd.R_far (p := ⟨gb286, 7, none⟩) (Kd.R_far (p := ⟨gb286, 6, none⟩) (Kd.R_far (p := ⟨gb286, 5, none⟩) (Kd.R_far (p := ⟨gb286, 4, none⟩) (Kd.R_far (p := ⟨gb286, 3, none⟩) (Kd.R_far (p := ⟨gb286, 2, none⟩) (Kd.R_far (p := ⟨gb286, 1, none⟩) (Kd.R_far (p := ⟨gb286, 0, none⟩) (Kd.R_types HO276.out BK286.out (by decide)) (fun _ hk => hk.2) (.slice Ao25 t274.length co25)) (fun _ hk => hk.2) (.int .i64 t277)) (fun _ hk => hk.2) (.int .i64 t278)) (fun _ hk => hk.2) (.int .i64 t279)) (fun _ hk => hk.2) (.int .i64 t280)) (fun _ hk => hk.2) (.string t281)) (fun _ hk => hk.2) (.int .i64 t282)) (fun _ hk => hk.2) (.int .i64 t283)) (fun _ hk => hk.2) (.int .i64 t284)) (fun _ hk => hk.2) (.int .i64 t285)) (fun _ h_ => h_.1))) hb); have n2_ := Aside0.mk (blk_below (g := gb259) (o := .cells #[.slice A0_0 l0_0.length c0_0, .int .i64 a0_1, .int .i64 a0_2, .int .i64 a0_3, .int .i64 a0_4, .string a0_5, .int .i64 a0_6, .int .i64 a0_7, .int .i64 a0_8, .int .i64 a0_9] 60 (0, 0)) (by (with_reducible repeat (first | refine blk_drewN ?_ _ | refine blk_drew ?_ | refine blk_alloc ?_ _)); refine blk_far ?_ NB259_286.out _; (with_reducible repeat (first | refine blk_drewN ?_ _ | refine blk_drew ?_ | refine blk_alloc ?_ _)); refine blk_far ?_ NB259_286.out _; (with_reducible repeat (first | refine blk_drewN ?_ _ | refine blk_drew ?_ | refine blk_alloc ?_ _)); refine blk_far ?_ NB259_286.out _; (with_reducible repeat (first | refine blk_drewN ?_ _ | refine blk_drew ?_ | refine blk_alloc ?_ _)); refine blk_far ?_ NB259_286.out _; (with_reducible repeat (first | refine blk_drewN ?_ _ | refine blk_drew ?_ | refine blk_alloc ?_ _)); refine blk_far ?_ NB259_286.out _; (with_reducible repeat (first | refine blk_drewN ?_ _ | refine blk_drew ?_ | refine blk_alloc ?_ _)); refine blk_far ?_ NB259_286.out _; (with_reducible repeat (first | refine blk_drewN ?_ _ | refine blk_drew ?_ | refine blk_alloc ?_ _)); refine blk_far ?_ NB259_286.out _; (with_reducible repeat (first | refine blk_drewN ?_ _ | refine blk_drew ?_ | refine blk_alloc ?_ _)); refine blk_far ?_ NB259_286.out _; (with_reducible repeat (first | refine blk_drewN ?_ _ | refine blk_drew ?_ | refine blk_alloc ?_ _)); refine blk_far ?_ NB259_286.out _; (with_reducible repeat (first | refine blk_drewN ?_ _ | refine blk_drew ?_ | refine blk_alloc ?_ _)); refine blk_far ?_ NB259_286.out _; (with_reducible repeat (first | refine blk_drewN ?_ _ | refine blk_drew ?_ | refine blk_alloc ?_ _)); exact BK259.out) hb); have n3_ := Aside0.mk (blk_below (g := gb286) (o := .cells #[.slice Ao25 t274.length co25, .int .i64 t277, .int .i64 t278, .int .i64 t279, .int .i64 t280, .string t281, .int .i64 t282, .int .i64 t283, .int .i64 t284, .int .i64 t285] 66 (0, 0)) (by (with_reducible repeat (first | refine blk_drewN ?_ _ | refine blk_drew ?_ | refine blk_alloc ?_ _)); refine blk_put (cs := #[.slice Ao25 t274.length co25, .int .i64 t277, .int .i64 t278, .int .i64 t279, .int .i64 t280, .string t281, .int .i64 t282, .int .i64 t283, .int .i64 t284, .int .i64 0]) ?_ 9 _ rfl; (with_reducible repeat (first | refine blk_drewN ?_ _ | refine blk_drew ?_ | refine blk_alloc ?_ _)); refine blk_put (cs := #[.slice Ao25 t274.length co25, .int .i64 t277, .int .i64 t278, .int .i64 t279, .int .i64 t280, .string t281, .int .i64 t282, .int .i64 t283, .int .i64 0, .int .i64 0]) ?_ 8 _ rfl; (with_reducible repeat (first | refine blk_drewN ?_ _ | refine blk_drew ?_ | refine blk_alloc ?_ _)); refine blk_put (cs := #[.slice Ao25 t274.length co25, .int .i64 t277, .int .i64 t278, .int .i64 t279, .int .i64 t280, .string t281, .int .i64 t282, .int .i64 0, .int .i64 0, .int .i64 0]) ?_ 7 _ rfl; (with_reducible repeat (first | refine blk_drewN ?_ _ | refine blk_drew ?_ | refine blk_alloc ?_ _)); refine blk_put (cs := #[.slice Ao25 t274.length co25, .int .i64 t277, .int .i64 t278, .int .i64 t279, .int .i64 t280, .string t281, .int .i64 0, .int .i64 0, .int .i64 0, .int .i64 0]) ?_ 6 _ rfl; (with_reducible repeat (first | refine blk_drewN ?_ _ | refine blk_drew ?_ | refine blk_alloc ?_ _)); refine blk_put (cs := #[.slice Ao25 t274.length co25, .int .i64 t277, .int .i64 t278, .int .i64 t279, .int .i64 t280, .string (⟨#[]⟩ : ByteArray), .int .i64 0, .int .i64 0, .int .i64 0, .int .i64 0]) ?_ 5 _ rfl; (with_reducible repeat (first | refine blk_drewN ?_ _ | refine blk_drew ?_ | refine blk_alloc ?_ _)); refine blk_put (cs := #[.slice Ao25 t274.length co25, .int .i64 t277, .int .i64 t278, .int .i64 t279, .int .i64 0, .string (⟨#[]⟩ : ByteArray), .int .i64 0, .int .i64 0, .int .i64 0, .int .i64 0]) ?_ 4 _ rfl; (with_reducible repeat (first | refine blk_drewN ?_ _ | refine blk_drew ?_ | refine blk_alloc ?_ _)); refine blk_put (cs := #[.slice Ao25 t274.length co25, .int .i64 t277, .int .i64 t278, .int .i64 0, .int .i64 0, .string (⟨#[]⟩ : ByteArray), .int .i64 0, .int .i64 0, .int .i64 0, .int .i64 0]) ?_ 3 _ rfl; (with_reducible repeat (first | refine blk_drewN ?_ _ | refine blk_drew ?_ | refine blk_alloc ?_ _)); refine blk_put (cs := #[.slice Ao25 t274.length co25, .int .i64 t277, .int .i64 0, .int .i64 0, .int .i64 0, .string (⟨#[]⟩ : ByteArray), .int .i64 0, .int .i64 0, .int .i64 0, .int .i64 0]) ?_ 2 _ rfl; (with_reducible repeat (first | refine blk_drewN ?_ _ | refine blk_drew ?_ | refine blk_alloc ?_ _)); refine blk_put (cs := #[.slice Ao25 t274.length co25, .int .i64 0, .int .i64 0, .int .i64 0, .int .i64 0, .string (⟨#[]⟩ : ByteArray), .int .i64 0, .int .i64 0, .int .i64 0, .int .i64 0]) ?_ 1 _ rfl; (with_reducible repeat (first | refine blk_drewN ?_ _ | refine blk_drew ?_ | refine blk_alloc ?_ _)); refine blk_put (cs := #[.slice none 0 0, .int .i64 0, .int .i64 0, .int .i64 0, .int .i64 0, .string (⟨#[]⟩ : ByteArray), .int .i64 0, .int .i64 0, .int .i64 0, .int .i64 0]) ?_ 0 _ rfl; (with_reducible repeat (first | refine blk_drewN ?_ _ | refine blk_drew ?_ | refine blk_alloc ?_ _)); exact BK286.out) hb); have n4_ := an0 HB hb; clear HO263; clear HO276; clear BK259; clear BK286; clear HB; have HO263 := n0_; have HO276 := n1_; have BK259 := n2_; have BK286 := n3_; have HB := n4_; clear n0_ n1_ n2_ n3_ n4_; (try clear hb); (try clear hb2); (try clear hk); (try clear hi)))
        have n0_ := Aside0.mk (Kd.R_drew HO263.out)
        have n1_ := Aside0.mk (Kd.R_drew HO276.out)
        have n2_ := Aside0.mk (blk_drew BK259.out)
        have n3_ := Aside0.mk (blk_drew BK286.out)
        have n4_ := Aside0.mk (below_drew1 HB.out)
        clear HO263
        clear HO276
        clear BK259
        clear BK286
        clear HB
        have HO263 := n0_
        have HO276 := n1_
        have BK259 := n2_
        have BK286 := n3_
        have HB := n4_
        clear n0_ n1_ n2_ n3_ n4_
        refine start_ (n := 5) (S := fun w' => w'.cell? ⟨gb286, 0, none⟩ = some (.slice Ao25 t274.length co25) ∧ w'.cell? ⟨gb286, 1, none⟩ = some (.int .i64 t277) ∧ w'.cell? ⟨gb286, 2, none⟩ = some (.int .i64 t278) ∧ w'.cell? ⟨gb286, 3, none⟩ = some (.int .i64 t279) ∧ w'.cell? ⟨gb286, 4, none⟩ = some (.int .i64 t280) ∧ w'.cell? ⟨gb286, 5, none⟩ = some (.string t281) ∧ w'.cell? ⟨gb286, 6, none⟩ = some (.int .i64 t282) ∧ w'.cell? ⟨gb286, 7, none⟩ = some (.int .i64 t283) ∧ w'.cell? ⟨gb286, 8, none⟩ = some (.int .i64 t284) ∧ w'.cell? ⟨gb286, 9, none⟩ = some (.int .i64 t285) ∧ w'.cell? ⟨gb259, 0, none⟩ = some (.slice A0_0 l0_0.length c0_0) ∧ w'.cell? ⟨gb259, 1, none⟩ = some (.int .i64 a0_1) ∧ w'.cell? ⟨gb259, 2, none⟩ = some (.int .i64 a0_2) ∧ w'.cell? ⟨gb259, 3, none⟩ = some (.int .i64 a0_3) ∧ w'.cell? ⟨gb259, 4, none⟩ = some (.int .i64 a0_4) ∧ w'.cell? ⟨gb259, 5, none⟩ = some (.string a0_5) ∧ w'.cell? ⟨gb259, 6, none⟩ = some (.int .i64 a0_6) ∧ w'.cell? ⟨gb259, 7, none⟩ = some (.int .i64 a0_7) ∧ w'.cell? ⟨gb259, 8, none⟩ = some (.int .i64 a0_8) ∧ w'.cell? ⟨gb259, 9, none⟩ = some (.int .i64 a0_9)) (ds := []) #[false, false, false, false, false] (by kernel_rfl) rfl rfl ⟨(blk_cell BK286.out 0).trans rfl, (blk_cell BK286.out 1).trans rfl, (blk_cell BK286.out 2).trans rfl, (blk_cell BK286.out 3).trans rfl, (blk_cell BK286.out 4).trans rfl, (blk_cell BK286.out 5).trans rfl, (blk_cell BK286.out 6).trans rfl, (blk_cell BK286.out 7).trans rfl, (blk_cell BK286.out 8).trans rfl, (blk_cell BK286.out 9).trans rfl, (blk_cell BK259.out 0).trans rfl, (blk_cell BK259.out 1).trans rfl, (blk_cell BK259.out 2).trans rfl, (blk_cell BK259.out 3).trans rfl, (blk_cell BK259.out 4).trans rfl, (blk_cell BK259.out 5).trans rfl, (blk_cell BK259.out 6).trans rfl, (blk_cell BK259.out 7).trans rfl, (blk_cell BK259.out 8).trans rfl, (blk_cell BK259.out 9).trans rfl⟩ (fun hHeld => ?_)
        generalize w28.drew = w29 at HO263 HO276 BK259 BK286 HB hHeld ⊢
        refine take_ (i := 0) (N := some 22) (v := ?_) (a' := ?_) #[true, false, false, false, false] rfl rfl (by kernel_rfl) (fun _ _ _ h => h) (Or.inl ⟨by rfl, ?_⟩) hHeld ?_ ?_
        rotate_left
        · rintro w' ⟨s0, s1, s2, s3, s4, s5, s6, s7, s8, s9, s10, s11, s12, s13, s14, s15, s16, s17, s18, s19⟩
          go_simp
          with_reducible rfl
        rotate_left
        · simp only [Act.put, List.setIfInBounds_toArray, List.set_cons_zero, List.set_cons_succ, i64_w, i32_w]
          rfl
        refine take_ (i := 1) (N := some 23) (v := ?_) (a' := ?_) #[true, true, false, false, false] rfl rfl (by kernel_rfl) (fun _ _ _ h => h) (Or.inl ⟨by rfl, ?_⟩) hHeld ?_ ?_
        rotate_left
        · rintro w' ⟨s0, s1, s2, s3, s4, s5, s6, s7, s8, s9, s10, s11, s12, s13, s14, s15, s16, s17, s18, s19⟩
          go_simp
          with_reducible rfl
        rotate_left
        · simp only [Act.put, List.setIfInBounds_toArray, List.set_cons_zero, List.set_cons_succ, i64_w, i32_w]
          rfl
        refine one_ (i := 2) (N := some 24) #[true, true, true, false, false] rfl rfl (by kernel_rfl) (by decide) (fun K hK => ?_)
        refine goes_ Try.func43 (by kernel_rfl) rfl #[.agg #[.slice A0_0 l0_0.length c0_0, .int .i64 a0_1, .int .i64 a0_2, .int .i64 a0_3, .int .i64 a0_4, .string a0_5, .int .i64 a0_6, .int .i64 a0_7, .int .i64 a0_8, .int .i64 a0_9]] (by rfl) rfl rfl (by (try simp only [List.map_toArray, List.map_cons, List.map_nil]); first | done | rfl | (simp only [List.length_drop, List.length_take]; rfl)) ?_
        with_reducible refine (laws_toMaster.calls k _ _ l0_0 a0_1 a0_2 a0_3 a0_4 a0_5 a0_6 a0_7 a0_8 a0_9 t288 t291 t292 t293 t294 t295 t296 t297 t298 t299 _ ?side1 ?side2 A12.out).mono ?_
        (case side1 => exact cc (Kd.C_below HR0_0.out HB.out))
        (case side2 => exact HC0_0.out)
        rintro e w30 ⟨v289, rfl, ho0, hb⟩
        refine ⟨_, rfl, ?_⟩
        have n0_ := Aside0.mk (Kd.R_elder' (kr (HO263.out)) (Kd.R_base ho0) hb)
        have n1_ := Aside0.mk (Kd.R_elder' (kr (HO276.out)) (Kd.R_base ho0) hb)
        have n2_ := Aside0.mk (Kd.R_lower (Kd.R_new' (Kd.R_new' ho0 (Kd.R_lt (kr (HO263.out)))) (Kd.R_lt (kr (HO276.out)))) (below_size (bp HB.out)))
        have n3_ := an1 BK259 hb
        have n4_ := an1 BK286 hb
        have n5_ := an0 HB hb
        clear HO263
        clear HO276
        clear BK259
        clear BK286
        clear HB
        have HO263 := n0_
        have HO276 := n1_
        have HO290 := n2_
        have BK259 := n3_
        have BK286 := n4_
        have HB := n5_
        clear n0_ n1_ n2_ n3_ n4_ n5_
        (try clear hb)
        (try clear hb2)
        (try clear hk)
        (try clear hi)
        (try clear ho0)
        obtain ⟨Ao31, co31, eo31⟩ := Kd.R_slice HO290.out
        (first | subst eo31 | (injection eo31 with f1_ f2_ f3_; have f4_ := f1_.symm; have f5_ := f3_.symm; clear f1_ f2_ f3_; subst f4_; subst f5_))
        refine hK.out _ _ ⟨(blk_cell BK286.out 0).trans rfl, (blk_cell BK286.out 1).trans rfl, (blk_cell BK286.out 2).trans rfl, (blk_cell BK286.out 3).trans rfl, (blk_cell BK286.out 4).trans rfl, (blk_cell BK286.out 5).trans rfl, (blk_cell BK286.out 6).trans rfl, (blk_cell BK286.out 7).trans rfl, (blk_cell BK286.out 8).trans rfl, (blk_cell BK286.out 9).trans rfl, (blk_cell BK259.out 0).trans rfl, (blk_cell BK259.out 1).trans rfl, (blk_cell BK259.out 2).trans rfl, (blk_cell BK259.out 3).trans rfl, (blk_cell BK259.out 4).trans rfl, (blk_cell BK259.out 5).trans rfl, (blk_cell BK259.out 6).trans rfl, (blk_cell BK259.out 7).trans rfl, (blk_cell BK259.out 8).trans rfl, (blk_cell BK259.out 9).trans rfl⟩ (fun hHeld => ?_)
        clear hK K
        refine norm_ (a' := ?_) ?_ ?_
        rotate_left
        · show Act.put _ (some 24) _ = _
          simp only [Act.put, List.setIfInBounds_toArray, List.set_cons_zero, List.set_cons_succ, i64_w, i32_w]
          rfl
        refine one_ (i := 3) (N := some 25) #[true, true, true, true, false] rfl rfl (by kernel_rfl) (by decide) (fun K hK => ?_)
        refine goes_ Try.func45 (by kernel_rfl) rfl #[.agg #[.slice Ao25 t274.length co25, .int .i64 t277, .int .i64 t278, .int .i64 t279, .int .i64 t280, .string t281, .int .i64 t282, .int .i64 t283, .int .i64 t284, .int .i64 t285], .agg #[.slice Ao31 t288.length co31, .int .i64 t291, .int .i64 t292, .int .i64 t293, .int .i64 t294, .string t295, .int .i64 t296, .int .i64 t297, .int .i64 t298, .int .i64 t299]] (by rfl) rfl rfl (by (try simp only [List.map_toArray, List.map_cons, List.map_nil]); first | done | rfl | (simp only [List.length_drop, List.length_take]; rfl)) ?_
        with_reducible refine (laws_eqMaster.calls k _ _ t274 t277 t278 t279 t280 t281 t282 t283 t284 t285 _ _ t288 t291 t292 t293 t294 t295 t296 t297 t298 t299 true _ ?side1 ?side2 ?side3 ?side4 A13.out).mono ?_
        (case side1 => repeat (first | exact (Kd.R_reads' HO276.out).2.2 | (with_reducible refine Kd.C_alloc ?_ _) | (with_reducible refine Kd.C_drewN ?_ _) | (with_reducible refine Kd.C_drew ?_)))
        (case side2 => exact (Kd.R_reads' HO276.out).2.1)
        (case side3 => repeat (first | exact (Kd.R_reads' HO290.out).2.2 | (with_reducible refine Kd.C_alloc ?_ _) | (with_reducible refine Kd.C_drewN ?_ _) | (with_reducible refine Kd.C_drew ?_)))
        (case side4 => exact (Kd.R_reads' HO290.out).2.1)
        rintro e w32 ⟨rfl, hb⟩
        refine ⟨_, rfl, ?_⟩
        have n0_ := Aside0.mk (Kd.R_below (kr (HO263.out)) hb)
        have n1_ := Aside0.mk (Kd.R_below (kr (HO276.out)) hb)
        have n2_ := Aside0.mk (Kd.R_below (kr (HO290.out)) hb)
        have n3_ := an1 BK259 hb
        have n4_ := an1 BK286 hb
        have n5_ := an0 HB hb
        clear HO263
        clear HO276
        clear HO290
        clear BK259
        clear BK286
        clear HB
        have HO263 := n0_
        have HO276 := n1_
        have HO290 := n2_
        have BK259 := n3_
        have BK286 := n4_
        have HB := n5_
        clear n0_ n1_ n2_ n3_ n4_ n5_
        (try clear hb)
        (try clear hb2)
        (try clear hk)
        (try clear hi)
        refine hK.out _ _ ⟨(blk_cell BK286.out 0).trans rfl, (blk_cell BK286.out 1).trans rfl, (blk_cell BK286.out 2).trans rfl, (blk_cell BK286.out 3).trans rfl, (blk_cell BK286.out 4).trans rfl, (blk_cell BK286.out 5).trans rfl, (blk_cell BK286.out 6).trans rfl, (blk_cell BK286.out 7).trans rfl, (blk_cell BK286.out 8).trans rfl, (blk_cell BK286.out 9).trans rfl, (blk_cell BK259.out 0).trans rfl, (blk_cell BK259.out 1).trans rfl, (blk_cell BK259.out 2).trans rfl, (blk_cell BK259.out 3).trans rfl, (blk_cell BK259.out 4).trans rfl, (blk_cell BK259.out 5).trans rfl, (blk_cell BK259.out 6).trans rfl, (blk_cell BK259.out 7).trans rfl, (blk_cell BK259.out 8).trans rfl, (blk_cell BK259.out 9).trans rfl⟩ (fun hHeld => ?_)
        clear hK K
        refine norm_ (a' := ?_) ?_ ?_
        rotate_left
        · show Act.put _ (some 25) _ = _
          simp only [Act.put, List.setIfInBounds_toArray, List.set_cons_zero, List.set_cons_succ, i64_w, i32_w]
          rfl
        refine pure_ (i := 4) (N := some 26) (v := ?_) (a' := ?_) #[true, true, true, true, true] rfl rfl (by kernel_rfl) (fun _ _ _ h => h) (Or.inl ⟨by rfl, ?_⟩) ?_ ?_
        rotate_left
        · intro w'
          go_simp
          with_reducible rfl
        rotate_left
        · simp only [Act.put, List.setIfInBounds_toArray, List.set_cons_zero, List.set_cons_succ, i64_w, i32_w]
          rfl
        refine done_ (by kernel_rfl) ?_
        try go_wp2
        go_ret
        exact ⟨fe, bp HB.out⟩
      · replace c14 := Bool.eq_false_iff.mpr c14
        subst c14
        have H1 : (some false) = some r := by rw [if_neg (show ¬ (false = true) by decide)] at H; exact H
        clear H
        have H := H1
        clear H1
        obtain rfl := Option.some.inj H
        exact absurd hrt.out (by simp)

end Go.Proofs.Ytkejaolfbejokaa.PFnExactMasterValid
