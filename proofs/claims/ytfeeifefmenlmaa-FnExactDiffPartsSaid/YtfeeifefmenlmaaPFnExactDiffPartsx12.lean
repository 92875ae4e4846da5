-- Written by a program of this session, in the manner of the kit's print (wip/pp.py): functions and their contracts.
import Derived.Test.YtfeeifefmenlmaaPFnExactDiffPartsx0
import Derived.Test.YtfeeifefmenlmaaPFnExactDiffPartsx8
import Derived.Test.YtfeeifefmenlmaaPFnExactDiffPartsx9
import Derived.Test.YtfeeifefmenlmaaPFnExactDiffPartsx11
namespace Go.Proofs.Ytfeeifefmenlmaa.PFnExactDiffParts
open Go.RowKit Go.Proofs.YtfeeifefmenlmaaW.PrintWords Go.Proofs.YtfeeifefmenlmaaW.PrintLast Go.Proofs.YtfeeifefmenlmaaW.PrintMore
attribute [local go_sem] binOp_leq_str binOp_gtr_str binOp_geq_str max2_int min2_int max_two min_two max_three min_three max_four min_four   -- for this text's walks alone
set_option linter.unusedVariables false
set_option linter.unusedSimpArgs false

/-! ### cmp_Compare_string: function 150 -/
def cmp_Compare_string.f (a0 : ByteArray) (a1 : ByteArray) : Option (Int) := (cmp_isNaN_string.f a0).bind fun t279 => ((cmp_isNaN_string.f a1).bind fun t280 => (if t279 = true then (if t280 = true then (some 0) else (some (-1))) else (if t280 = true then (some 1) else (if (Op.bytesLess a0.toList a1.toList) = true then (some (-1)) else (if (Op.bytesLess a1.toList a0.toList) = true then (some 1) else (some 0))))))
set_option maxHeartbeats 8000000 in
set_option maxRecDepth 100000 in
theorem cmp_Compare_string.calls (a0 : ByteArray) (a1 : ByteArray) (r : Int) (w : World) (h : cmp_Compare_string.f a0 a1 = some r) :
    Calls Try.prog 150 #[.string a0, .string a1] w fun e w' => e = .returned (.int .i64 r) ∧ Drawn0 w w' := by
  have H : ((cmp_isNaN_string.f a0).bind fun t279 => ((cmp_isNaN_string.f a1).bind fun t280 => (if t279 = true then (if t280 = true then (some 0) else (some (-1))) else (if t280 = true then (some 1) else (if (Op.bytesLess a0.toList a1.toList) = true then (some (-1)) else (if (Op.bytesLess a1.toList a0.toList) = true then (some 1) else (some 0))))))) = some r := h
  clear h
  replace H := Option.bind_eq_some_iff.mp H
  obtain ⟨t279, A30, H⟩ := H
  replace H : ((cmp_isNaN_string.f a1).bind fun t280 => (if t279 = true then (if t280 = true then (some 0) else (some (-1))) else (if t280 = true then (some 1) else (if (Op.bytesLess a0.toList a1.toList) = true then (some (-1)) else (if (Op.bytesLess a1.toList a0.toList) = true then (some 1) else (some 0)))))) = some r := H
  have A3 := Aside0.mk A30
  clear A30
  replace H := Option.bind_eq_some_iff.mp H
  obtain ⟨t280, A40, H⟩ := H
  replace H : (if t279 = true then (if t280 = true then (some 0) else (some (-1))) else (if t280 = true then (some 1) else (if (Op.bytesLess a0.toList a1.toList) = true then (some (-1)) else (if (Op.bytesLess a1.toList a0.toList) = true then (some 1) else (some 0))))) = some r := H
  have A4 := Aside0.mk A40
  clear A40
  by_cases c5 : t279 = true
  · subst c5
    have H1 : (if t280 = true then (some 0) else (some (-1))) = some r := by rw [if_pos rfl] at H; exact H
    clear H
    have H := H1
    clear H1
    by_cases c6 : t280 = true
    · subst c6
      have H1 : (some 0) = some r := by rw [if_pos rfl] at H; exact H
      clear H
      have H := H1
      clear H1
      obtain rfl := Option.some.inj H
      go_enter Try.func150, Try.ntmps150
      go_wp2_with (first | ((with_reducible refine gate_callee (f := 169) rfl ?_); refine gsl (some 8) rfl Try.func169 #[.string a0] rfl ?_; (with_reducible refine (cmp_isNaN_string.calls a0 true _ A3.out).mono ?_); rintro e w' ⟨rfl, ⟨nd, rfl⟩⟩; refine ⟨_, rfl, ?_⟩) | ((with_reducible refine gate_callee (f := 169) rfl ?_); refine gsl (some 10) rfl Try.func169 #[.string a1] rfl ?_; (with_reducible refine (cmp_isNaN_string.calls a1 true _ A4.out).mono ?_); rintro e w' ⟨rfl, ⟨nd, rfl⟩⟩; refine ⟨_, rfl, ?_⟩))
      go_ret
      exact ⟨by first | rfl | (simp; done) | (simp [*]; done) | (simp [bne_nil_, beq_nil_]; done), by repeat (first | exact Drawn0.refl _ | apply Drawn0.step)⟩
    · replace c6 := Bool.eq_false_iff.mpr c6
      subst c6
      have H1 : (some (-1)) = some r := by rw [if_neg (show ¬ (false = true) by decide)] at H; exact H
      clear H
      have H := H1
      clear H1
      obtain rfl := Option.some.inj H
      go_enter Try.func150, Try.ntmps150
      go_wp2_with (first | ((with_reducible refine gate_callee (f := 169) rfl ?_); refine gsl (some 8) rfl Try.func169 #[.string a0] rfl ?_; (with_reducible refine (cmp_isNaN_string.calls a0 true _ A3.out).mono ?_); rintro e w' ⟨rfl, ⟨nd, rfl⟩⟩; refine ⟨_, rfl, ?_⟩) | ((with_reducible refine gate_callee (f := 169) rfl ?_); refine gsl (some 10) rfl Try.func169 #[.string a1] rfl ?_; (with_reducible refine (cmp_isNaN_string.calls a1 false _ A4.out).mono ?_); rintro e w' ⟨rfl, ⟨nd, rfl⟩⟩; refine ⟨_, rfl, ?_⟩))
      go_ret
      exact ⟨by first | rfl | (simp; done) | (simp [*]; done) | (simp [bne_nil_, beq_nil_]; done), by repeat (first | exact Drawn0.refl _ | apply Drawn0.step)⟩
  · replace c5 := Bool.eq_false_iff.mpr c5
    subst c5
    have H1 : (if t280 = true then (some 1) else (if (Op.bytesLess a0.toList a1.toList) = true then (some (-1)) else (if (Op.bytesLess a1.toList a0.toList) = true then (some 1) else (some 0)))) = some r := by rw [if_neg (show ¬ (false = true) by decide)] at H; exact H
    clear H
    have H := H1
    clear H1
    by_cases c7 : t280 = true
    · subst c7
      have H1 : (some 1) = some r := by rw [if_pos rfl] at H; exact H
      clear H
      have H := H1
      clear H1
      obtain rfl := Option.some.inj H
      go_enter Try.func150, Try.ntmps150
      go_wp2_with (first | ((with_reducible refine gate_callee (f := 169) rfl ?_); refine gsl (some 8) rfl Try.func169 #[.string a0] rfl ?_; (with_reducible refine (cmp_isNaN_string.calls a0 false _ A3.out).mono ?_); rintro e w' ⟨rfl, ⟨nd, rfl⟩⟩; refine ⟨_, rfl, ?_⟩) | ((with_reducible refine gate_callee (f := 169) rfl ?_); refine gsl (some 10) rfl Try.func169 #[.string a1] rfl ?_; (with_reducible refine (cmp_isNaN_string.calls a1 true _ A4.out).mono ?_); rintro e w' ⟨rfl, ⟨nd, rfl⟩⟩; refine ⟨_, rfl, ?_⟩))
      go_ret
      exact ⟨by first | rfl | (simp; done) | (simp [*]; done) | (simp [bne_nil_, beq_nil_]; done), by repeat (first | exact Drawn0.refl _ | apply Drawn0.step)⟩
    · replace c7 := Bool.eq_false_iff.mpr c7
      subst c7
      have H1 : (if (Op.bytesLess a0.toList a1.toList) = true then (some (-1)) else (if (Op.bytesLess a1.toList a0.toList) = true then (some 1) else (some 0))) = some r := by rw [if_neg (show ¬ (false = true) by decide)] at H; exact H
      clear H
      have H := H1
      clear H1
      by_cases c8 : (Op.bytesLess a0.toList a1.toList) = true
      · rw [if_pos c8] at H
        have c8b0 : (Op.bytesLess a0.toList a1.toList) = true := c8
        clear c8
        obtain rfl := Option.some.inj H
        go_enter Try.func150, Try.ntmps150
        go_wp2_with (first | ((with_reducible refine gate_callee (f := 169) rfl ?_); refine gsl (some 8) rfl Try.func169 #[.string a0] rfl ?_; (with_reducible refine (cmp_isNaN_string.calls a0 false _ A3.out).mono ?_); rintro e w' ⟨rfl, ⟨nd, rfl⟩⟩; refine ⟨_, rfl, ?_⟩) | ((with_reducible refine gate_callee (f := 169) rfl ?_); refine gsl (some 10) rfl Try.func169 #[.string a1] rfl ?_; (with_reducible refine (cmp_isNaN_string.calls a1 false _ A4.out).mono ?_); rintro e w' ⟨rfl, ⟨nd, rfl⟩⟩; refine ⟨_, rfl, ?_⟩))
        go_ret
        exact ⟨by first | rfl | (simp; done) | (simp [*]; done) | (simp [bne_nil_, beq_nil_]; done), by repeat (first | exact Drawn0.refl _ | apply Drawn0.step)⟩
      · rw [if_neg c8] at H
        have c8b0 : (Op.bytesLess a0.toList a1.toList) = false := by simpa using c8
        clear c8
        by_cases c9 : (Op.bytesLess a1.toList a0.toList) = true
        · rw [if_pos c9] at H
          have c9b0 : (Op.bytesLess a1.toList a0.toList) = true := c9
          clear c9
          obtain rfl := Option.some.inj H
          go_enter Try.func150, Try.ntmps150
          go_wp2_with (first | ((with_reducible refine gate_callee (f := 169) rfl ?_); refine gsl (some 8) rfl Try.func169 #[.string a0] rfl ?_; (with_reducible refine (cmp_isNaN_string.calls a0 false _ A3.out).mono ?_); rintro e w' ⟨rfl, ⟨nd, rfl⟩⟩; refine ⟨_, rfl, ?_⟩) | ((with_reducible refine gate_callee (f := 169) rfl ?_); refine gsl (some 10) rfl Try.func169 #[.string a1] rfl ?_; (with_reducible refine (cmp_isNaN_string.calls a1 false _ A4.out).mono ?_); rintro e w' ⟨rfl, ⟨nd, rfl⟩⟩; refine ⟨_, rfl, ?_⟩))
          go_ret
          exact ⟨by first | rfl | (simp; done) | (simp [*]; done) | (simp [bne_nil_, beq_nil_]; done), by repeat (first | exact Drawn0.refl _ | apply Drawn0.step)⟩
        · rw [if_neg c9] at H
          have c9b0 : (Op.bytesLess a1.toList a0.toList) = false := by simpa using c9
          clear c9
          obtain rfl := Option.some.inj H
          go_enter Try.func150, Try.ntmps150
          go_wp2_with (first | ((with_reducible refine gate_callee (f := 169) rfl ?_); refine gsl (some 8) rfl Try.func169 #[.string a0] rfl ?_; (with_reducible refine (cmp_isNaN_string.calls a0 false _ A3.out).mono ?_); rintro e w' ⟨rfl, ⟨nd, rfl⟩⟩; refine ⟨_, rfl, ?_⟩) | ((with_reducible refine gate_callee (f := 169) rfl ?_); refine gsl (some 10) rfl Try.func169 #[.string a1] rfl ?_; (with_reducible refine (cmp_isNaN_string.calls a1 false _ A4.out).mono ?_); rintro e w' ⟨rfl, ⟨nd, rfl⟩⟩; refine ⟨_, rfl, ?_⟩))
          go_ret
          exact ⟨by first | rfl | (simp; done) | (simp [*]; done) | (simp [bne_nil_, beq_nil_]; done), by repeat (first | exact Drawn0.refl _ | apply Drawn0.step)⟩

/-! ### impl_pairPlace_1: function 149 -/
def impl_pairPlace_1.f (a0_0 : ByteArray) (a0_1 : Int) (a1 : ByteArray) : Option (Int) := (cmp_Compare_string.f a0_0 a1).bind fun t282 => (some t282)
set_option maxHeartbeats 8000000 in
set_option maxRecDepth 100000 in
theorem impl_pairPlace_1.calls (a0_0 : ByteArray) (a0_1 : Int) (a1 : ByteArray) (r : Int) (w : World) (h : impl_pairPlace_1.f a0_0 a0_1 a1 = some r) :
    Calls Try.prog 149 #[.agg #[.string a0_0, .int .i64 a0_1], .string a1] w fun e w' => e = .returned (.int .i64 r) ∧ Below w.heap.size w w' := by
  have hu29 := Try.underlying29
  have HB := Aside0.mk (Below.refl w.heap.size w)
  have H : ((cmp_Compare_string.f a0_0 a1).bind fun t282 => (some t282)) = some r := h
  clear h
  replace H := Option.bind_eq_some_iff.mp H
  obtain ⟨t282, A30, H⟩ := H
  replace H : (some t282) = some r := H
  have A3 := Aside0.mk A30
  clear A30
  obtain rfl := Option.some.inj H
  go_enter Try.func149, Try.ntmps149
  go_wp2_with (first | ((with_reducible refine gate_dst (N := 2) rfl ?_); refine bxe (N := 2) (cs := #[.string a0_0, .int .i64 a0_1]) (t := 29) ?_; intro gb281 hg w4 hbox hb; have BK281 := Aside0.mk (hbox); have GW281 := an2 HB hg; have GE281 := an2 HB hg; replace HB := an0 HB hb; clear hb hbox hg; obtain ⟨hcz5_0, hcz5_1, hfz5_0, hfz5_1⟩ := cl2 BK281) | ((with_reducible refine gate_callee (f := 150) rfl ?_); refine gsl (some 8) rfl Try.func150 #[.string a0_0, .string a1] rfl ?_; (with_reducible refine (cmp_Compare_string.calls a0_0 a1 t282 _ A3.out).mono ?_); rintro e w' ⟨rfl, ⟨nd, rfl⟩⟩; refine ⟨_, rfl, ?_⟩))
  go_ret
  exact ⟨fe, bp HB.out⟩

/-! ### impl_Pair_string: function 148 -/
def impl_Pair_string.l0 : Nat → List (S29) → ByteArray → Int → Int → Int → Option (Int × Bool)
  | 0, _, _, _, _, _ => none
  | k + 1, x0, x1, x8, x9, x10 => if x9 < x10 then (if 0 ≤ (wrap64 ((IntKind.u64.wrap (wrap64 (x9 + x10))) / 2)) then (if (wrap64 ((IntKind.u64.wrap (wrap64 (x9 + x10))) / 2)) < (x0.length : Int) then ((impl_pairPlace_1.f ((rd_T29 x0 (wrap64 ((IntKind.u64.wrap (wrap64 (x9 + x10))) / 2))).f0) ((rd_T29 x0 (wrap64 ((IntKind.u64.wrap (wrap64 (x9 + x10))) / 2))).f1) x1).bind fun t284 => (if t284 < 0 then (impl_Pair_string.l0 k x0 x1 x8 (wrap64 ((wrap64 ((IntKind.u64.wrap (wrap64 (x9 + x10))) / 2)) + 1)) x10) else (impl_Pair_string.l0 k x0 x1 x8 x9 (wrap64 ((IntKind.u64.wrap (wrap64 (x9 + x10))) / 2))))) else (none)) else (none)) else (if x9 < x8 then (if 0 ≤ x9 then (if x9 < (x0.length : Int) then ((impl_pairPlace_1.f ((rd_T29 x0 x9).f0) ((rd_T29 x0 x9).f1) x1).bind fun t286 => (some (x9, (t286 == 0)))) else (none)) else (none)) else (some (x9, false)))
def impl_Pair_string.f (k : Nat) (l0 : List (S29)) (a1 : ByteArray) (a2 : Unit) : Option (Int × Bool) := impl_Pair_string.l0 k l0 a1 (l0.length : Int) 0 (l0.length : Int)
theorem impl_Pair_string.mono_l : ∀ k, (∀ y0 y1 y2 y3 y4, LeO (impl_Pair_string.l0 k y0 y1 y2 y3 y4) (impl_Pair_string.l0 (k + 1) y0 y1 y2 y3 y4))
  | 0 => fun _ _ _ _ _ r h => by simp [impl_Pair_string.l0] at h
  | k + 1 => by
    have ih0 := impl_Pair_string.mono_l k
    · intro y0 y1 y2 y3 y4
      unfold impl_Pair_string.l0
      repeat' first
      | (with_reducible exact ih0 _ _ _ _ _)
      | (with_reducible exact LeO.refl _)
      | (with_reducible exact LeO.none _)
      | (with_reducible refine LeO.ite ?_ ?_)
      | (with_reducible refine LeO.bind ?_ (fun _ => ?_))
      | exact ih0 _ _ _ _ _
      | exact LeO.none _
      | refine LeO.ite ?_ ?_
      | refine LeO.bind ?_ (fun _ => ?_)
theorem impl_Pair_string.mono : ∀ a0 a1 a2 k, LeO (impl_Pair_string.f k a0 a1 a2) (impl_Pair_string.f (k + 1) a0 a1 a2) := by
  intro a0 a1 a2 k
  have ih0 := impl_Pair_string.mono_l k
  unfold impl_Pair_string.f
  repeat' first
      | (with_reducible exact ih0 _ _ _ _ _)
      | (with_reducible exact LeO.refl _)
      | (with_reducible exact LeO.none _)
      | (with_reducible refine LeO.ite ?_ ?_)
      | (with_reducible refine LeO.bind ?_ (fun _ => ?_))
      | exact ih0 _ _ _ _ _
      | exact LeO.none _
      | refine LeO.ite ?_ ?_
      | refine LeO.bind ?_ (fun _ => ?_)
set_option maxHeartbeats 8000000 in
set_option maxRecDepth 100000 in
theorem impl_Pair_string.calls (k : Nat) (A0 : Option Addr) (c0 : Nat) (l0 : List (S29)) (a1 : ByteArray) (a2 : Unit) (r1 : Int) (r2 : Bool) (w : World) (hr0 : Kd.C k29 w A0 l0.length l0) (hc0 : l0.length ≤ c0) (h : impl_Pair_string.f k l0 a1 a2 = some (r1, r2)) :
    Calls Try.prog 148 #[.slice A0 l0.length c0, .string a1, .func (.func 149) #[] #[]] w fun e w' => e = .returned (.tuple #[.int .i64 r1, .bool r2]) ∧ Below w.heap.size w w' := by
  have hu29 := Try.underlying29
  have HR0 := Aside0.mk hr0
  have HC0 := Aside0.mk hc0
  clear hr0 hc0
  have HB := Aside0.mk (Below.refl w.heap.size w)
  have H : (impl_Pair_string.l0 k l0 a1 (l0.length : Int) 0 (l0.length : Int)) = some (r1, r2) := h
  clear h
  have H' := Aside0.mk H
  clear H
  go_enter Try.func148, Try.ntmps148
  go_wp2
  go_loopg [9, 10] k (fun kq v9 v10 w' => ∃ (x9_1 : Int) (x10_1 : Int), v9 = .int .i64 x9_1 ∧ v10 = .int .i64 x10_1 ∧ Aside0 (impl_Pair_string.l0 kq l0 a1 (l0.length : Int) x9_1 x10_1 = some (r1, r2)) ∧ Aside0 (kq ≤ k) ∧ Aside0 (Below w.heap.size w w'))
  case atStart => exact ⟨(0), ((l0.length : Int)), (by first | rfl | (simp; done) | (simp [*]; done) | (simp [bne_nil_, beq_nil_]; done)), (by first | rfl | (simp; done) | (simp [*]; done) | (simp [bne_nil_, beq_nil_]; done)), H', ⟨Nat.le_refl _⟩, ⟨bp HB.out⟩⟩
  case round =>
    clear H'
    try clear c1
    try clear p2
    obtain ⟨x9_1, x10_1, rfl, rfl, HA, HK1, HB⟩ := hrel
    cases gk with
    | zero => exact absurd HA.out (by simp [impl_Pair_string.l0])
    | succ k1 =>
      have H := HA.out
      clear HA
      simp only [impl_Pair_string.l0] at H
      by_cases c4 : x9_1 < x10_1
      · rw [if_pos c4] at H
        have c4b0 : decide (x9_1 < x10_1) = true := decide_eq_true c4
        clear c4
        obtain ⟨ji5, hji5⟩ : ∃ j_ : Int, (wrap64 ((IntKind.u64.wrap (wrap64 (x9_1 + x10_1))) / 2)) = j_ := ⟨_, rfl⟩
        replace H : (if 0 ≤ (ji5) then (if (ji5) < (l0.length : Int) then ((impl_pairPlace_1.f ((rd_T29 l0 (ji5)).f0) ((rd_T29 l0 (ji5)).f1) a1).bind fun t284 => (if t284 < 0 then (impl_Pair_string.l0 k1 l0 a1 (l0.length : Int) (wrap64 ((ji5) + 1)) x10_1) else (impl_Pair_string.l0 k1 l0 a1 (l0.length : Int) x9_1 ji5))) else (none)) else (none)) = some (r1, r2) := by first | (rw [hji5] at H; exact H) | (simp only [hji5] at H ⊢; exact H)
        have hji5w : (IntKind.i64.wrap ((IntKind.u64.wrap (wrap64 (x9_1 + x10_1))) / 2)) = ji5 := (i64_w _).trans hji5
        by_cases c6 : 0 ≤ (ji5)
        · rw [if_pos c6] at H
          have c6b0 : decide (0 ≤ (ji5)) = true := decide_eq_true c6
          clear c6
          by_cases c7 : (ji5) < (l0.length : Int)
          · rw [if_pos c7] at H
            have c7b0 : decide ((ji5) < (l0.length : Int)) = true := decide_eq_true c7
            clear c7
            replace H := Option.bind_eq_some_iff.mp H
            obtain ⟨t284, A80, H⟩ := H
            replace H : (if t284 < 0 then (impl_Pair_string.l0 k1 l0 a1 (l0.length : Int) (wrap64 ((ji5) + 1)) x10_1) else (impl_Pair_string.l0 k1 l0 a1 (l0.length : Int) x9_1 ji5)) = some (r1, r2) := H
            have A8 := Aside0.mk A80
            clear A80
            by_cases c9 : t284 < 0
            · rw [if_pos c9] at H
              have c9b0 : decide (t284 < 0) = true := decide_eq_true c9
              clear c9
              have H' := Aside0.mk H
              clear H
              have p283 : 0 ≤ ((ji5) : Int) := of_decide_eq_true (by first | (with_reducible assumption) | assumption)
              have q283 : (ji5) < (l0.length : Int) := of_decide_eq_true (by first | (with_reducible assumption) | assumption)
              obtain ⟨ad283, e283, hx283_0, hx283_1⟩ := at_T29 HR0.out (ji5) p283 q283
              cases e283
              replace hx283_0 := hcx HB hx283_0
              replace hx283_1 := hcx HB hx283_1
              replace p283 := eq_true p283
              replace q283 := eq_true q283
              go_wp2_with (first | (go_at_call 149; (with_reducible refine (impl_pairPlace_1.calls ((rd_T29 l0 (ji5)).f0) ((rd_T29 l0 (ji5)).f1) a1 t284 _ A8.out).mono ?_); rintro e w10 ⟨rfl, hb⟩; replace HB := an0 HB hb; (try clear hb); (try clear hb2); (try clear hk); (try clear hi)))
              go_roundg k1
              case measure => have := HK1.out; omega
              case rel => exact ⟨(wrap64 ((ji5) + 1)), (x10_1), (by first | rfl | (simp; done) | (simp only [← hji5] <;> (first | rfl | (simp; done) | (simp [bne_nil_, beq_nil_]; done))) | (simp [*]; done) | (simp [bne_nil_, beq_nil_]; done)), (by first | rfl | (simp; done) | (simp [*]; done) | (simp [bne_nil_, beq_nil_]; done)), H', ⟨by have := HK1.out; omega⟩, ⟨bp HB.out⟩⟩
            · rw [if_neg c9] at H
              have c9b0 : decide (t284 < 0) = false := decide_eq_false c9
              clear c9
              have H' := Aside0.mk H
              clear H
              have p283 : 0 ≤ ((ji5) : Int) := of_decide_eq_true (by first | (with_reducible assumption) | assumption)
              have q283 : (ji5) < (l0.length : Int) := of_decide_eq_true (by first | (with_reducible assumption) | assumption)
              obtain ⟨ad283, e283, hx283_0, hx283_1⟩ := at_T29 HR0.out (ji5) p283 q283
              cases e283
              replace hx283_0 := hcx HB hx283_0
              replace hx283_1 := hcx HB hx283_1
              replace p283 := eq_true p283
              replace q283 := eq_true q283
              go_wp2_with (first | (go_at_call 149; (with_reducible refine (impl_pairPlace_1.calls ((rd_T29 l0 (ji5)).f0) ((rd_T29 l0 (ji5)).f1) a1 t284 _ A8.out).mono ?_); rintro e w11 ⟨rfl, hb⟩; replace HB := an0 HB hb; (try clear hb); (try clear hb2); (try clear hk); (try clear hi)))
              go_roundg k1
              case measure => have := HK1.out; omega
              case rel => exact ⟨(x9_1), (ji5), (by first | rfl | (simp; done) | (simp [*]; done) | (simp [bne_nil_, beq_nil_]; done)), (by first | rfl | (simp; done) | (simp only [← hji5] <;> (first | rfl | (simp; done) | (simp [bne_nil_, beq_nil_]; done))) | (simp [*]; done) | (simp [bne_nil_, beq_nil_]; done)), H', ⟨by have := HK1.out; omega⟩, ⟨bp HB.out⟩⟩
          · rw [if_neg c7] at H
            exact absurd H (by simp)
        · rw [if_neg c6] at H
          exact absurd H (by simp)
      · rw [if_neg c4] at H
        have c4b0 : decide (x9_1 < x10_1) = false := decide_eq_false c4
        clear c4
        by_cases c12 : x9_1 < (l0.length : Int)
        · rw [if_pos c12] at H
          have c12b0 : decide (x9_1 < (l0.length : Int)) = true := decide_eq_true c12
          clear c12
          by_cases c13 : 0 ≤ x9_1
          · rw [if_pos c13] at H
            have c13b0 : decide (0 ≤ x9_1) = true := decide_eq_true c13
            clear c13
            by_cases c14 : x9_1 < (l0.length : Int)
            · rw [if_pos c14] at H
              have c14b0 : decide (x9_1 < (l0.length : Int)) = true := decide_eq_true c14
              clear c14
              replace H := Option.bind_eq_some_iff.mp H
              obtain ⟨t286, A150, H⟩ := H
              replace H : (some (x9_1, (t286 == 0))) = some (r1, r2) := H
              have A15 := Aside0.mk A150
              clear A150
              simp only [Option.some.injEq, Prod.mk.injEq] at H
              obtain ⟨rfl, rfl⟩ := H
              have p285 : 0 ≤ (x9_1 : Int) := of_decide_eq_true (by first | (with_reducible assumption) | assumption)
              have q285 : x9_1 < (l0.length : Int) := of_decide_eq_true (by first | (with_reducible assumption) | assumption)
              obtain ⟨ad285, e285, hx285_0, hx285_1⟩ := at_T29 HR0.out x9_1 p285 q285
              cases e285
              replace hx285_0 := hcx HB hx285_0
              replace hx285_1 := hcx HB hx285_1
              replace p285 := eq_true p285
              replace q285 := eq_true q285
              go_wp2_with (first | (go_at_call 149; (with_reducible refine (impl_pairPlace_1.calls ((rd_T29 l0 x9_1).f0) ((rd_T29 l0 x9_1).f1) a1 t286 _ A15.out).mono ?_); rintro e w16 ⟨rfl, hb⟩; replace HB := an0 HB hb; (try clear hb); (try clear hb2); (try clear hk); (try clear hi)))
              go_ret2
              exact ⟨fe, bp HB.out⟩
            · rw [if_neg c14] at H
              exact absurd H (by simp)
          · rw [if_neg c13] at H
            exact absurd H (by simp)
        · rw [if_neg c12] at H
          have c12b0 : decide (x9_1 < (l0.length : Int)) = false := decide_eq_false c12
          clear c12
          simp only [Option.some.injEq, Prod.mk.injEq] at H
          obtain ⟨rfl, rfl⟩ := H
          go_wp2
          go_ret2
          exact ⟨fe, bp HB.out⟩

/-! ### impl_pairPlace: function 115 -/
def impl_pairPlace.f (k : Nat) (l0 : List (S29)) (a1 : ByteArray) : Option (Int × Bool) := (impl_Pair_string.f k l0 a1 ()).bind fun bt287 => (some (bt287.1, bt287.2))
theorem impl_pairPlace.mono : ∀ a0 a1 k, LeO (impl_pairPlace.f k a0 a1) (impl_pairPlace.f (k + 1) a0 a1) := by
  intro a0 a1 k
  unfold impl_pairPlace.f
  repeat' first
      | (with_reducible exact impl_Pair_string.mono _ _ _ _)
      | (with_reducible exact LeO.refl _)
      | (with_reducible exact LeO.none _)
      | (with_reducible refine LeO.ite ?_ ?_)
      | (with_reducible refine LeO.bind ?_ (fun _ => ?_))
      | exact impl_Pair_string.mono _ _ _ _
      | exact LeO.none _
      | refine LeO.ite ?_ ?_
      | refine LeO.bind ?_ (fun _ => ?_)
set_option maxHeartbeats 8000000 in
set_option maxRecDepth 100000 in
theorem impl_pairPlace.calls (k : Nat) (A0 : Option Addr) (c0 : Nat) (l0 : List (S29)) (a1 : ByteArray) (r1 : Int) (r2 : Bool) (w : World) (hr0 : Kd.C k29 w A0 l0.length l0) (hc0 : l0.length ≤ c0) (h : impl_pairPlace.f k l0 a1 = some (r1, r2)) :
    Calls Try.prog 115 #[.slice A0 l0.length c0, .string a1] w fun e w' => e = .returned (.tuple #[.int .i64 r1, .bool r2]) ∧ Below w.heap.size w w' := by
  have HR0 := Aside0.mk hr0
  have HC0 := Aside0.mk hc0
  clear hr0 hc0
  have HB := Aside0.mk (Below.refl w.heap.size w)
  have H : ((impl_Pair_string.f k l0 a1 ()).bind fun bt287 => (some (bt287.1, bt287.2))) = some (r1, r2) := h
  clear h
  replace H := Option.bind_eq_some_iff.mp H
  obtain ⟨⟨t287, t288⟩, A30, H⟩ := H
  replace H : (some (t287, t288)) = some (r1, r2) := H
  have A3 := Aside0.mk A30
  clear A30
  simp only [Option.some.injEq, Prod.mk.injEq] at H
  obtain ⟨rfl, rfl⟩ := H
  go_enter Try.func115, Try.ntmps115
  go_wp2_with (first | ((with_reducible refine gate_callee (f := 148) rfl ?_); refine gsl (some 8) rfl Try.func148 #[.slice A0 l0.length c0, .string a1, .func (.func 149) #[] #[]] rfl ?_; (with_reducible refine (impl_Pair_string.calls k _ _ l0 a1 () t287 t288 _ ?side1 ?side2 A3.out).mono ?_); (case side1 => exact cc HR0.out); (case side2 => exact HC0.out); rintro e w4 ⟨rfl, hb⟩; refine ⟨_, rfl, ?_⟩; replace HB := an0 HB hb; (try clear hb); (try clear hb2); (try clear hk); (try clear hi)))
  go_ret2
  exact ⟨fe, bp HB.out⟩

/-! ### impl_PairsIn: function 62 -/
def impl_PairsIn.j0 : Nat → List (S29) → Bool → ByteArray → ByteArray → Option ((List (S29)))
  | 0, _, _, _, _ => none
  | k + 1, x0, x15, x290000, x290001 => if x15 = true then (some ([] : List (S29))) else ((impl_pairPlace.f k x0 x290000).bind fun bt292 => (if x290001.toList = ([] : List UInt8) then (if 0 ≤ bt292.1 then (if bt292.1 ≤ (x0.length : Int) then (if (x0.length : Int) ≤ (x0.length : Int) then ((impl_Pair.f ((x0.take ((x0.length : Int) : Int).toNat).drop (bt292.1 : Int).toNat)).bind fun t298 => (some t298)) else (none)) else (none)) else (none)) else ((impl_pairPlace.f k x0 x290001).bind fun bt301 => (if 0 ≤ bt292.1 then (if bt292.1 ≤ bt301.1 then (if bt301.1 ≤ (x0.length : Int) then ((impl_Pair.f ((x0.take (bt301.1 : Int).toNat).drop (bt292.1 : Int).toNat)).bind fun t307 => (some t307)) else (none)) else (none)) else (none)))))
def impl_PairsIn.f (k : Nat) (l0 : List (S29)) (a1_0 : ByteArray) (a1_1 : ByteArray) : Option ((List (S29))) := (impl_PairsValid.f k l0).bind fun t290 => (if t290 = true then ((impl_IntervalValid.f k a1_0 a1_1).bind fun t291 => (impl_PairsIn.j0 k l0 (!t291) a1_0 a1_1)) else (impl_PairsIn.j0 k l0 true a1_0 a1_1))
theorem impl_PairsIn.mono_l : ∀ k, (∀ y0 y1 y2 y3, LeO (impl_PairsIn.j0 k y0 y1 y2 y3) (impl_PairsIn.j0 (k + 1) y0 y1 y2 y3))
  | 0 => fun _ _ _ _ r h => by simp [impl_PairsIn.j0] at h
  | k + 1 => by
    have ih0 := impl_PairsIn.mono_l k
    · intro y0 y1 y2 y3
      unfold impl_PairsIn.j0
      repeat' first
      | (with_reducible exact ih0 _ _ _ _)
      | (with_reducible exact impl_IntervalValid.mono _ _ _)
      | (with_reducible exact impl_PairsValid.mono _ _)
      | (with_reducible exact impl_pairPlace.mono _ _ _)
      | (with_reducible exact LeO.refl _)
      | (with_reducible exact LeO.none _)
      | (with_reducible refine LeO.ite ?_ ?_)
      | (with_reducible refine LeO.bind ?_ (fun _ => ?_))
      | exact ih0 _ _ _ _
      | exact impl_IntervalValid.mono _ _ _
      | exact impl_PairsValid.mono _ _
      | exact impl_pairPlace.mono _ _ _
      | exact LeO.none _
      | refine LeO.ite ?_ ?_
      | refine LeO.bind ?_ (fun _ => ?_)
theorem impl_PairsIn.mono : ∀ a0 a1 a2 k, LeO (impl_PairsIn.f k a0 a1 a2) (impl_PairsIn.f (k + 1) a0 a1 a2) := by
  intro a0 a1 a2 k
  have ih0 := impl_PairsIn.mono_l k
  unfold impl_PairsIn.f
  repeat' first
      | (with_reducible exact ih0 _ _ _ _)
      | (with_reducible exact impl_IntervalValid.mono _ _ _)
      | (with_reducible exact impl_PairsValid.mono _ _)
      | (with_reducible exact impl_pairPlace.mono _ _ _)
      | (with_reducible exact LeO.refl _)
      | (with_reducible exact LeO.none _)
      | (with_reducible refine LeO.ite ?_ ?_)
      | (with_reducible refine LeO.bind ?_ (fun _ => ?_))
      | exact ih0 _ _ _ _
      | exact impl_IntervalValid.mono _ _ _
      | exact impl_PairsValid.mono _ _
      | exact impl_pairPlace.mono _ _ _
      | exact LeO.none _
      | refine LeO.ite ?_ ?_
      | refine LeO.bind ?_ (fun _ => ?_)
set_option maxHeartbeats 8000000 in
set_option maxRecDepth 100000 in
theorem impl_PairsIn.calls (k : Nat) (A0 : Option Addr) (c0 : Nat) (l0 : List (S29)) (a1_0 : ByteArray) (a1_1 : ByteArray) (r : List (S29)) (w : World) (hr0 : Kd.C k29 w A0 l0.length l0) (hc0 : l0.length ≤ c0) (h : impl_PairsIn.f k l0 a1_0 a1_1 = some r) :
    Calls Try.prog 62 #[.slice A0 l0.length c0, .agg #[.string a1_0, .string a1_1]] w fun e w' => ∃ v0_ : Value, e = .returned (v0_) ∧ Kd.R k29 29 w' w.heap.size (fun _ => True) v0_ r ∧ Below w.heap.size w w' := by
  have hu83 := Try.underlying83
  have HR0 := Aside0.mk hr0
  have HC0 := Aside0.mk hc0
  clear hr0 hc0
  have HB := Aside0.mk (Below.refl w.heap.size w)
  have H : ((impl_PairsValid.f k l0).bind fun t290 => (if t290 = true then ((impl_IntervalValid.f k a1_0 a1_1).bind fun t291 => (impl_PairsIn.j0 k l0 (!t291) a1_0 a1_1)) else (impl_PairsIn.j0 k l0 true a1_0 a1_1))) = some r := h
  clear h
  have HC3 := Aside0.mk H
  clear H
  go_enter Try.func62, Try.ntmps62
  go_upto_region 1 with (first | ((with_reducible refine gate_dst (N := 3) rfl ?_); refine bxe (N := 3) (cs := #[.string a1_0, .string a1_1]) (t := 83) ?_; intro gb289 hg w4 hbox hb; have BK289 := Aside0.mk (hbox); have GW289 := an2 HB hg; have GE289 := an2 HB hg; replace HB := an0 HB hb; clear hb hbox hg))
  (try simp only [Act.put, List.setIfInBounds_toArray, List.set_cons_zero, List.set_cons_succ])
  go_cut [15] (fun v15 wc => ∃ (kq : Nat) (x15_2 : Bool), v15 = .bool x15_2 ∧ Aside0 (impl_PairsIn.j0 kq l0 x15_2 a1_0 a1_1 = some r) ∧ Aside0 (kq ≤ k) ∧ Aside0 (wc.heap[gb289]? = some (.cells #[.string a1_0, .string a1_1] 83 (0, 0))) ∧ Aside0 (Below w.heap.size w wc))
  case first =>
    have H := HC3.out
    clear HC3
    replace H := Option.bind_eq_some_iff.mp H
    obtain ⟨t290, A50, H⟩ := H
    replace H : (if t290 = true then ((impl_IntervalValid.f k a1_0 a1_1).bind fun t291 => (impl_PairsIn.j0 k l0 (!t291) a1_0 a1_1)) else (impl_PairsIn.j0 k l0 true a1_0 a1_1)) = some r := H
    have A5 := Aside0.mk A50
    clear A50
    by_cases c6 : t290 = true
    · subst c6
      have H1 : ((impl_IntervalValid.f k a1_0 a1_1).bind fun t291 => (impl_PairsIn.j0 k l0 (!t291) a1_0 a1_1)) = some r := by rw [if_pos rfl] at H; exact H
      clear H
      have H := H1
      clear H1
      replace H := Option.bind_eq_some_iff.mp H
      obtain ⟨t291, A70, H⟩ := H
      replace H : (impl_PairsIn.j0 k l0 (!t291) a1_0 a1_1) = some r := H
      have A7 := Aside0.mk A70
      clear A70
      have H' := Aside0.mk H
      clear H
      go_wp2_with (first | ((with_reducible refine gate_callee (f := 17) rfl ?_); refine gsl (some 9) rfl Try.func17 #[.slice A0 l0.length c0] rfl ?_; (with_reducible refine (impl_PairsValid.calls k _ _ l0 true _ ?side1 ?side2 A5.out).mono ?_); (case side1 => exact cc (Kd.C_below HR0.out HB.out)); (case side2 => exact HC0.out); rintro e w8 ⟨rfl, hb⟩; refine ⟨_, rfl, ?_⟩; replace BK289 := an1 BK289 hb; replace HB := an0 HB hb; (try clear hb); (try clear hb2); (try clear hk); (try clear hi); obtain ⟨hcz9_0, hcz9_1, hfz9_0, hfz9_1⟩ := cl2 BK289) | (go_at_call 106; (with_reducible refine (impl_IntervalValid.calls k a1_0 a1_1 t291 _ A7.out).mono ?_); rintro e w10 ⟨rfl, hb⟩; replace BK289 := an1 BK289 hb; replace HB := an0 HB hb; (try clear hb); (try clear hb2); (try clear hk); (try clear hi)))
      go_meet
      case rel => exact ⟨_, (!t291), (by first | rfl | (simp; done) | (simp [*]; done) | (simp [bne_nil_, beq_nil_]; done)), H', ⟨by first | omega | exact Nat.le_refl _⟩, ⟨kb BK289.out⟩, ⟨bp HB.out⟩⟩
    · replace c6 := Bool.eq_false_iff.mpr c6
      subst c6
      have H1 : (impl_PairsIn.j0 k l0 true a1_0 a1_1) = some r := by rw [if_neg (show ¬ (false = true) by decide)] at H; exact H
      clear H
      have H := H1
      clear H1
      have H' := Aside0.mk H
      clear H
      go_wp2_with (first | ((with_reducible refine gate_callee (f := 17) rfl ?_); refine gsl (some 9) rfl Try.func17 #[.slice A0 l0.length c0] rfl ?_; (with_reducible refine (impl_PairsValid.calls k _ _ l0 false _ ?side1 ?side2 A5.out).mono ?_); (case side1 => exact cc (Kd.C_below HR0.out HB.out)); (case side2 => exact HC0.out); rintro e w11 ⟨rfl, hb⟩; refine ⟨_, rfl, ?_⟩; replace BK289 := an1 BK289 hb; replace HB := an0 HB hb; (try clear hb); (try clear hb2); (try clear hk); (try clear hi)))
      go_meet
      case rel => exact ⟨_, (true), (by first | rfl | (simp; done) | (simp [*]; done) | (simp [bne_nil_, beq_nil_]; done)), H', ⟨by first | omega | exact Nat.le_refl _⟩, ⟨kb BK289.out⟩, ⟨bp HB.out⟩⟩
  case rest =>
    clear HC3
    try clear c1
    try clear p2
    try clear c6
    try clear hcz9_0
    try clear hcz9_1
    try clear hfz9_0
    try clear hfz9_1
    obtain ⟨kq, x15_2, rfl, HA, HJ2, BK289, HB⟩ := hcut
    cases kq with
    | zero => exact absurd HA.out (by simp [impl_PairsIn.j0])
    | succ kj2 =>
      have H := HA.out
      clear HA
      simp only [impl_PairsIn.j0] at H
      by_cases c12 : x15_2 = true
      · subst c12
        have H1 : (some ([] : List (S29))) = some r := by rw [if_pos rfl] at H; exact H
        clear H
        have H := H1
        clear H1
        obtain rfl := Option.some.inj H
        go_wp2
        go_ret
        exact ⟨_, fe, by first | exact Kd.R_nil _ _ _ _ _ | exact Kd.N_nil _ _ _ _ _ | exact Kd.V_nil _ _ _ _ _ | exact Kd.Q_nil _ _ _ _ _ | exact Kd.S_nil _ _ _ _ _, bp HB.out⟩
      · replace c12 := Bool.eq_false_iff.mpr c12
        subst c12
        have H1 : ((impl_pairPlace.f kj2 l0 a1_0).bind fun bt292 => (if a1_1.toList = ([] : List UInt8) then (if 0 ≤ bt292.1 then (if bt292.1 ≤ (l0.length : Int) then (if (l0.length : Int) ≤ (l0.length : Int) then ((impl_Pair.f ((l0.take ((l0.length : Int) : Int).toNat).drop (bt292.1 : Int).toNat)).bind fun t298 => (some t298)) else (none)) else (none)) else (none)) else ((impl_pairPlace.f kj2 l0 a1_1).bind fun bt301 => (if 0 ≤ bt292.1 then (if bt292.1 ≤ bt301.1 then (if bt301.1 ≤ (l0.length : Int) then ((impl_Pair.f ((l0.take (bt301.1 : Int).toNat).drop (bt292.1 : Int).toNat)).bind fun t307 => (some t307)) else (none)) else (none)) else (none))))) = some r := by rw [if_neg (show ¬ (false = true) by decide)] at H; exact H
        clear H
        have H := H1
        clear H1
        replace H := Option.bind_eq_some_iff.mp H
        obtain ⟨⟨t292, t293⟩, A130, H⟩ := H
        replace H : (if a1_1.toList = ([] : List UInt8) then (if 0 ≤ t292 then (if t292 ≤ (l0.length : Int) then (if (l0.length : Int) ≤ (l0.length : Int) then ((impl_Pair.f ((l0.take ((l0.length : Int) : Int).toNat).drop (t292 : Int).toNat)).bind fun t298 => (some t298)) else (none)) else (none)) else (none)) else ((impl_pairPlace.f kj2 l0 a1_1).bind fun bt301 => (if 0 ≤ t292 then (if t292 ≤ bt301.1 then (if bt301.1 ≤ (l0.length : Int) then ((impl_Pair.f ((l0.take (bt301.1 : Int).toNat).drop (t292 : Int).toNat)).bind fun t307 => (some t307)) else (none)) else (none)) else (none)))) = some r := H
        have A13 := Aside0.mk A130
        clear A130
        by_cases c14 : a1_1.toList = ([] : List UInt8)
        · rw [if_pos c14] at H
          have c14b0 : (a1_1.toList == ([] : List UInt8)) = true := beq_iff_eq.mpr c14
          have c14b1 : (a1_1.toList != ([] : List UInt8)) = false := bne_eq_false_iff_eq.mpr c14
          clear c14
          by_cases c15 : 0 ≤ t292
          · rw [if_pos c15] at H
            have c15b0 := eq_true c15
            have c15b1 : decide (0 ≤ t292) = true := decide_eq_true c15
            clear c15
            by_cases c16 : t292 ≤ (l0.length : Int)
            · rw [if_pos c16] at H
              have c16b0 := eq_true c16
              have c16b1 : decide (t292 ≤ (l0.length : Int)) = true := decide_eq_true c16
              clear c16
              by_cases c17 : (l0.length : Int) ≤ (l0.length : Int)
              · rw [if_pos c17] at H
                have c17b0 := eq_true c17
                have c17b1 : decide ((l0.length : Int) ≤ (l0.length : Int)) = true := decide_eq_true c17
                clear c17
                obtain ⟨y294, hy294⟩ : ∃ y_ : List (S29), y_ = ((l0.take ((l0.length : Int) : Int).toNat).drop (t292 : Int).toNat) := ⟨_, rfl⟩
                replace H : ((impl_Pair.f y294).bind fun t298 => (some t298)) = some r := by first | (rw [hy294]; with_reducible exact H) | (have H2_ := (Option.bind_some _ _).symm.trans H; rw [hy294]; with_reducible exact H2_) | (have H2_ := (Option.bind_some _ _).symm.trans H; with_reducible exact H2_) | with_reducible exact H | (rw [hy294]; exact H) | exact H
                have Ny294 := Aside0.mk hy294
                clear hy294
                replace H := Option.bind_eq_some_iff.mp H
                obtain ⟨t298, A180, H⟩ := H
                replace H : (some t298) = some r := H
                have A18 := Aside0.mk A180
                clear A180
                obtain rfl := Option.some.inj H
                obtain ⟨hcz19_0, hcz19_1, hfz19_0, hfz19_1⟩ := cl2 BK289
                go_wp2_with (first | ((with_reducible refine gate_callee (f := 115) rfl ?_); refine gsl (some 20) rfl Try.func115 #[.slice A0 l0.length c0, .string a1_0] rfl ?_; (with_reducible refine (impl_pairPlace.calls kj2 _ _ l0 a1_0 t292 t293 _ ?side1 ?side2 A13.out).mono ?_); (case side1 => exact cc (Kd.C_below HR0.out HB.out)); (case side2 => exact HC0.out); rintro e w20 ⟨rfl, hb⟩; refine ⟨_, rfl, ?_⟩; replace BK289 := an1 BK289 hb; replace HB := an0 HB hb; (try clear hb); (try clear hb2); (try clear hk); (try clear hi); obtain ⟨hcz21_0, hcz21_1, hfz21_0, hfz21_1⟩ := cl2 BK289; have q22 : ((l0.length : Int) : Int) ≤ ((l0.length : Int) : Int) := of_decide_eq_true (by first | (with_reducible assumption) | assumption); obtain ⟨i022, hi022, _, hsz22, _⟩ := info_parts info29; have hroom22 : l0.length ≤ c0 := HC0.out; have hC22 : Kd.C k29 _ A0 l0.length l0 := HR0.out; have ql22 : (t292 : Int) ≤ ((l0.length : Int) : Int) := of_decide_eq_true (by first | (with_reducible assumption) | assumption); have q022 : (0 : Int) ≤ (t292 : Int) := of_decide_eq_true (by first | (with_reducible assumption) | assumption); have hcut22 := cut_mid (P := Try.prog) 23 29 .i64 .i64 Try.underlying23 hi022 2 hsz22 A0 l0.length c0 t292 (l0.length : Int) q022 ql22 q22 hroom22; have hr22 := Kd.C_mid (lo := (t292 : Int).toNat) (hi := ((l0.length : Int) : Int).toNat) (c := c0) hC22 (by omega) (by omega) hroom22; obtain ⟨A22, hA22⟩ : ∃ A_, A_ = (if c0 = (t292 : Int).toNat then A0 else (A0 : Option Addr).map (·.add ((t292 : Int).toNat * 2))) := ⟨_, rfl⟩; obtain ⟨c22, hc22⟩ : ∃ c_, c_ = c0 - (t292 : Int).toNat := ⟨_, rfl⟩; have hy22 : y294.length = ((l0.length : Int) : Int).toNat - (t292 : Int).toNat := (by rw [Ny294.out, List.length_drop, List.length_take] <;> omega); rw [show ((l0).take ((l0.length : Int) : Int).toNat).drop (t292 : Int).toNat = y294 from Ny294.out.symm] at hr22; replace hr22 : Kd.C k29 _ A22 y294.length y294 := (by rw [hA22]; exact hr22); rw [← hy22, ← hA22, ← hc22] at hcut22; have HR297 := Aside0.mk hr22; have HC297 := Aside0.mk (show y294.length ≤ c22 from by rw [hy22, hc22]; exact Nat.sub_le_sub_right (Nat.le_trans (by omega) hroom22) _); clear hr22 hC22 hroom22 hi022 hsz22 hc22; have KY22 := Aside0.mk hy22; have KA22 := Aside0.mk hA22; clear hy22 hA22; replace q22 := eq_true q22) | ((with_reducible refine gate_callee (f := 96) rfl ?_); refine gsl (some 39) rfl Try.func96 #[.slice A22 y294.length c22] rfl ?_; (with_reducible refine (impl_Pair.calls _ _ y294 t298 _ ?side1 ?side2 A18.out).mono ?_); (case side1 => exact cc (Kd.C_below HR297.out HB.out)); (case side2 => exact HC297.out); rintro e w23 ⟨v299, rfl, ho0, hb⟩; refine ⟨_, rfl, ?_⟩; have n0_ := Aside0.mk (Kd.R_lower ho0 (below_size (bp HB.out))); have n1_ := an1 BK289 hb; have n2_ := an0 HB hb; clear BK289; clear HB; have HO300 := n0_; have BK289 := n1_; have HB := n2_; clear n0_ n1_ n2_; (try clear hb); (try clear hb2); (try clear hk); (try clear hi); (try clear ho0)))
                go_ret
                exact ⟨_, fe, by (with_reducible repeat (first | apply Kd.R_alloc | apply Kd.R_drewN | apply Kd.R_drew)); exact HO300.out, bp HB.out⟩
              · rw [if_neg c17] at H
                exact absurd H (by simp)
            · rw [if_neg c16] at H
              exact absurd H (by simp)
          · rw [if_neg c15] at H
            exact absurd H (by simp)
        · rw [if_neg c14] at H
          have c14b0 : (a1_1.toList == ([] : List UInt8)) = false := beq_eq_false_iff_ne.mpr c14
          have c14b1 : (a1_1.toList != ([] : List UInt8)) = true := bne_iff_ne.mpr c14
          replace H := Option.bind_eq_some_iff.mp H
          obtain ⟨⟨t301, t302⟩, A240, H⟩ := H
          replace H : (if 0 ≤ t292 then (if t292 ≤ t301 then (if t301 ≤ (l0.length : Int) then ((impl_Pair.f ((l0.take (t301 : Int).toNat).drop (t292 : Int).toNat)).bind fun t307 => (some t307)) else (none)) else (none)) else (none)) = some r := H
          have A24 := Aside0.mk A240
          clear A240
          by_cases c25 : 0 ≤ t292
          · rw [if_pos c25] at H
            have c25b0 := eq_true c25
            have c25b1 : decide (0 ≤ t292) = true := decide_eq_true c25
            clear c25
            by_cases c26 : t292 ≤ t301
            · rw [if_pos c26] at H
              have c26b0 := eq_true c26
              have c26b1 : decide (t292 ≤ t301) = true := decide_eq_true c26
              clear c26
              by_cases c27 : t301 ≤ (l0.length : Int)
              · rw [if_pos c27] at H
                have c27b0 := eq_true c27
                have c27b1 : decide (t301 ≤ (l0.length : Int)) = true := decide_eq_true c27
                clear c27
                obtain ⟨y303, hy303⟩ : ∃ y_ : List (S29), y_ = ((l0.take (t301 : Int).toNat).drop (t292 : Int).toNat) := ⟨_, rfl⟩
                replace H : ((impl_Pair.f y303).bind fun t307 => (some t307)) = some r := by first | (rw [hy303]; with_reducible exact H) | (have H2_ := (Option.bind_some _ _).symm.trans H; rw [hy303]; with_reducible exact H2_) | (have H2_ := (Option.bind_some _ _).symm.trans H; with_reducible exact H2_) | with_reducible exact H | (rw [hy303]; exact H) | exact H
                have Ny303 := Aside0.mk hy303
                clear hy303
                replace H := Option.bind_eq_some_iff.mp H
                obtain ⟨t307, A280, H⟩ := H
                replace H : (some t307) = some r := H
                have A28 := Aside0.mk A280
                clear A280
                obtain rfl := Option.some.inj H
                obtain ⟨hcz29_0, hcz29_1, hfz29_0, hfz29_1⟩ := cl2 BK289
                go_wp2_with (first | ((with_reducible refine gate_callee (f := 115) rfl ?_); refine gsl (some 20) rfl Try.func115 #[.slice A0 l0.length c0, .string a1_0] rfl ?_; (with_reducible refine (impl_pairPlace.calls kj2 _ _ l0 a1_0 t292 t293 _ ?side1 ?side2 A13.out).mono ?_); (case side1 => exact cc (Kd.C_below HR0.out HB.out)); (case side2 => exact HC0.out); rintro e w30 ⟨rfl, hb⟩; refine ⟨_, rfl, ?_⟩; replace BK289 := an1 BK289 hb; replace HB := an0 HB hb; (try clear hb); (try clear hb2); (try clear hk); (try clear hi); obtain ⟨hcz31_0, hcz31_1, hfz31_0, hfz31_1⟩ := cl2 BK289) | ((with_reducible refine gate_callee (f := 115) rfl ?_); refine gsl (some 32) rfl Try.func115 #[.slice A0 l0.length c0, .string a1_1] rfl ?_; (with_reducible refine (impl_pairPlace.calls kj2 _ _ l0 a1_1 t301 t302 _ ?side1 ?side2 A24.out).mono ?_); (case side1 => exact cc (Kd.C_below HR0.out HB.out)); (case side2 => exact HC0.out); rintro e w32 ⟨rfl, hb⟩; refine ⟨_, rfl, ?_⟩; replace BK289 := an1 BK289 hb; replace HB := an0 HB hb; (try clear hb); (try clear hb2); (try clear hk); (try clear hi); have q33 : (t301 : Int) ≤ ((l0.length : Int) : Int) := of_decide_eq_true (by first | (with_reducible assumption) | assumption); obtain ⟨i033, hi033, _, hsz33, _⟩ := info_parts info29; have hroom33 : l0.length ≤ c0 := HC0.out; have hC33 : Kd.C k29 _ A0 l0.length l0 := HR0.out; have ql33 : (t292 : Int) ≤ (t301 : Int) := of_decide_eq_true (by first | (with_reducible assumption) | assumption); have q033 : (0 : Int) ≤ (t292 : Int) := of_decide_eq_true (by first | (with_reducible assumption) | assumption); have hcut33 := cut_mid (P := Try.prog) 23 29 .i64 .i64 Try.underlying23 hi033 2 hsz33 A0 l0.length c0 t292 t301 q033 ql33 q33 hroom33; have hr33 := Kd.C_mid (lo := (t292 : Int).toNat) (hi := (t301 : Int).toNat) (c := c0) hC33 (by omega) (by omega) hroom33; obtain ⟨A33, hA33⟩ : ∃ A_, A_ = (if c0 = (t292 : Int).toNat then A0 else (A0 : Option Addr).map (·.add ((t292 : Int).toNat * 2))) := ⟨_, rfl⟩; obtain ⟨c33, hc33⟩ : ∃ c_, c_ = c0 - (t292 : Int).toNat := ⟨_, rfl⟩; have hy33 : y303.length = (t301 : Int).toNat - (t292 : Int).toNat := (by rw [Ny303.out, List.length_drop, List.length_take] <;> omega); rw [show ((l0).take (t301 : Int).toNat).drop (t292 : Int).toNat = y303 from Ny303.out.symm] at hr33; replace hr33 : Kd.C k29 _ A33 y303.length y303 := (by rw [hA33]; exact hr33); rw [← hy33, ← hA33, ← hc33] at hcut33; have HR306 := Aside0.mk hr33; have HC306 := Aside0.mk (show y303.length ≤ c33 from by rw [hy33, hc33]; exact Nat.sub_le_sub_right (Nat.le_trans (by omega) hroom33) _); clear hr33 hC33 hroom33 hi033 hsz33 hc33; have KY33 := Aside0.mk hy33; have KA33 := Aside0.mk hA33; clear hy33 hA33; replace q33 := eq_true q33) | ((with_reducible refine gate_callee (f := 96) rfl ?_); refine gsl (some 39) rfl Try.func96 #[.slice A33 y303.length c33] rfl ?_; (with_reducible refine (impl_Pair.calls _ _ y303 t307 _ ?side1 ?side2 A28.out).mono ?_); (case side1 => exact cc (Kd.C_below HR306.out HB.out)); (case side2 => exact HC306.out); rintro e w34 ⟨v308, rfl, ho0, hb⟩; refine ⟨_, rfl, ?_⟩; have n0_ := Aside0.mk (Kd.R_lower ho0 (below_size (bp HB.out))); have n1_ := an1 BK289 hb; have n2_ := an0 HB hb; clear BK289; clear HB; have HO309 := n0_; have BK289 := n1_; have HB := n2_; clear n0_ n1_ n2_; (try clear hb); (try clear hb2); (try clear hk); (try clear hi); (try clear ho0)))
                go_ret
                exact ⟨_, fe, by (with_reducible repeat (first | apply Kd.R_alloc | apply Kd.R_drewN | apply Kd.R_drew)); exact HO309.out, bp HB.out⟩
              · rw [if_neg c27] at H
                exact absurd H (by simp)
            · rw [if_neg c26] at H
              exact absurd H (by simp)
          · rw [if_neg c25] at H
            exact absurd H (by simp)

/-! ### impl_PartDigests: function 37 -/
mutual
def impl_PartDigests.j0 : Nat → List (S29) → List (S83) → Bool → Option (List Int)
  | 0, _, _, _ => none
  | k + 1, x0, x1, x15 => if x15 = true then (some ([] : List Int)) else (impl_PartDigests.l0 k x0 ([] : List Int) x1 (x1.length : Int) 0)
def impl_PartDigests.l0 : Nat → List (S29) → List Int → List (S83) → Int → Int → Option (List Int)
  | 0, _, _, _, _, _ => none
  | k + 1, x0, x5, x16, x17, x18 => if x18 < x17 then (if 0 ≤ x18 then (if x18 < (x16.length : Int) then ((impl_PairsIn.f k x0 ((rd_T83 x16 x18).f0) ((rd_T83 x16 x18).f1)).bind fun t314 => ((impl_PairsDigest.f k t314).bind fun t317 => (if x5.length < 17592186044416 then (impl_PartDigests.l0 k x0 (x5 ++ [t317]) x16 x17 (wrap64 (x18 + 1))) else (none)))) else (none)) else (none)) else (some x5)
end
def impl_PartDigests.f (k : Nat) (l0 : List (S29)) (l1 : List (S83)) : Option (List Int) := (impl_PairsValid.f k l0).bind fun t310 => (if t310 = true then ((impl_PartitionValid.f k l1).bind fun t311 => (impl_PartDigests.j0 k l0 l1 (!t311))) else (impl_PartDigests.j0 k l0 l1 true))
theorem impl_PartDigests.mono_l : ∀ k, (∀ y0 y1 y2, LeO (impl_PartDigests.j0 k y0 y1 y2) (impl_PartDigests.j0 (k + 1) y0 y1 y2)) ∧ (∀ y0 y1 y2 y3 y4, LeO (impl_PartDigests.l0 k y0 y1 y2 y3 y4) (impl_PartDigests.l0 (k + 1) y0 y1 y2 y3 y4))
  | 0 => ⟨fun _ _ _ r h => by simp [impl_PartDigests.j0] at h, fun _ _ _ _ _ r h => by simp [impl_PartDigests.l0] at h⟩
  | k + 1 => by
    obtain ⟨ih0, ih1⟩ := impl_PartDigests.mono_l k
    refine ⟨?_, ?_⟩
    · intro y0 y1 y2
      unfold impl_PartDigests.j0
      repeat' first
      | (with_reducible exact ih0 _ _ _)
      | (with_reducible exact ih1 _ _ _ _ _)
      | (with_reducible exact impl_PairsDigest.mono _ _)
      | (with_reducible exact impl_PairsIn.mono _ _ _ _)
      | (with_reducible exact impl_PairsValid.mono _ _)
      | (with_reducible exact impl_PartitionValid.mono _ _)
      | (with_reducible exact LeO.refl _)
      | (with_reducible exact LeO.none _)
      | (with_reducible refine LeO.ite ?_ ?_)
      | (with_reducible refine LeO.bind ?_ (fun _ => ?_))
      | exact ih0 _ _ _
      | exact ih1 _ _ _ _ _
      | exact impl_PairsDigest.mono _ _
      | exact impl_PairsIn.mono _ _ _ _
      | exact impl_PairsValid.mono _ _
      | exact impl_PartitionValid.mono _ _
      | exact LeO.none _
      | refine LeO.ite ?_ ?_
      | refine LeO.bind ?_ (fun _ => ?_)
    · intro y0 y1 y2 y3 y4
      unfold impl_PartDigests.l0
      repeat' first
      | (with_reducible exact ih0 _ _ _)
      | (with_reducible exact ih1 _ _ _ _ _)
      | (with_reducible exact impl_PairsDigest.mono _ _)
      | (with_reducible exact impl_PairsIn.mono _ _ _ _)
      | (with_reducible exact impl_PairsValid.mono _ _)
      | (with_reducible exact impl_PartitionValid.mono _ _)
      | (with_reducible exact LeO.refl _)
      | (with_reducible exact LeO.none _)
      | (with_reducible refine LeO.ite ?_ ?_)
      | (with_reducible refine LeO.bind ?_ (fun _ => ?_))
      | exact ih0 _ _ _
      | exact ih1 _ _ _ _ _
      | exact impl_PairsDigest.mono _ _
      | exact impl_PairsIn.mono _ _ _ _
      | exact impl_PairsValid.mono _ _
      | exact impl_PartitionValid.mono _ _
      | exact LeO.none _
      | refine LeO.ite ?_ ?_
      | refine LeO.bind ?_ (fun _ => ?_)
theorem impl_PartDigests.mono : ∀ a0 a1 k, LeO (impl_PartDigests.f k a0 a1) (impl_PartDigests.f (k + 1) a0 a1) := by
  intro a0 a1 k
  obtain ⟨ih0, ih1⟩ := impl_PartDigests.mono_l k
  unfold impl_PartDigests.f
  repeat' first
      | (with_reducible exact ih0 _ _ _)
      | (with_reducible exact ih1 _ _ _ _ _)
      | (with_reducible exact impl_PairsDigest.mono _ _)
      | (with_reducible exact impl_PairsIn.mono _ _ _ _)
      | (with_reducible exact impl_PairsValid.mono _ _)
      | (with_reducible exact impl_PartitionValid.mono _ _)
      | (with_reducible exact LeO.refl _)
      | (with_reducible exact LeO.none _)
      | (with_reducible refine LeO.ite ?_ ?_)
      | (with_reducible refine LeO.bind ?_ (fun _ => ?_))
      | exact ih0 _ _ _
      | exact ih1 _ _ _ _ _
      | exact impl_PairsDigest.mono _ _
      | exact impl_PairsIn.mono _ _ _ _
      | exact impl_PairsValid.mono _ _
      | exact impl_PartitionValid.mono _ _
      | exact LeO.none _
      | refine LeO.ite ?_ ?_
      | refine LeO.bind ?_ (fun _ => ?_)
set_option maxHeartbeats 8000000 in
set_option maxRecDepth 100000 in
theorem impl_PartDigests.calls (k : Nat) (A0 : Option Addr) (c0 : Nat) (l0 : List (S29)) (A1 : Option Addr) (c1 : Nat) (l1 : List (S83)) (r : List Int) (w : World) (hr0 : Kd.C k29 w A0 l0.length l0) (hc0 : l0.length ≤ c0) (hr1 : Kd.C k83 w A1 l1.length l1) (hc1 : l1.length ≤ c1) (h : impl_PartDigests.f k l0 l1 = some r) :
    Calls Try.prog 37 #[.slice A0 l0.length c0, .slice A1 l1.length c1] w fun e w' => ∃ v0_ : Value, e = .returned (v0_) ∧ Kd.R (Kd.int .i64) 3 w' w.heap.size (fun _ => True) v0_ r ∧ Below w.heap.size w w' := by
  have hu83 := Try.underlying83
  have HR0 := Aside0.mk hr0
  have HC0 := Aside0.mk hc0
  clear hr0 hc0
  have HR1 := Aside0.mk hr1
  have HC1 := Aside0.mk hc1
  clear hr1 hc1
  have HB := Aside0.mk (Below.refl w.heap.size w)
  have H : ((impl_PairsValid.f k l0).bind fun t310 => (if t310 = true then ((impl_PartitionValid.f k l1).bind fun t311 => (impl_PartDigests.j0 k l0 l1 (!t311))) else (impl_PartDigests.j0 k l0 l1 true))) = some r := h
  clear h
  have HC3 := Aside0.mk H
  clear H
  go_enter Try.func37, Try.ntmps37
  go_upto_region 1 with (fail)
  go_cut [15] (fun v15 wc => ∃ (kq : Nat) (x15_2 : Bool), v15 = .bool x15_2 ∧ Aside0 (impl_PartDigests.j0 kq l0 l1 x15_2 = some r) ∧ Aside0 (kq ≤ k) ∧ Aside0 (Below w.heap.size w wc))
  case first =>
    have H := HC3.out
    clear HC3
    replace H := Option.bind_eq_some_iff.mp H
    obtain ⟨t310, A40, H⟩ := H
    replace H : (if t310 = true then ((impl_PartitionValid.f k l1).bind fun t311 => (impl_PartDigests.j0 k l0 l1 (!t311))) else (impl_PartDigests.j0 k l0 l1 true)) = some r := H
    have A4 := Aside0.mk A40
    clear A40
    by_cases c5 : t310 = true
    · subst c5
      have H1 : ((impl_PartitionValid.f k l1).bind fun t311 => (impl_PartDigests.j0 k l0 l1 (!t311))) = some r := by rw [if_pos rfl] at H; exact H
      clear H
      have H := H1
      clear H1
      replace H := Option.bind_eq_some_iff.mp H
      obtain ⟨t311, A60, H⟩ := H
      replace H : (impl_PartDigests.j0 k l0 l1 (!t311)) = some r := H
      have A6 := Aside0.mk A60
      clear A60
      have H' := Aside0.mk H
      clear H
      go_wp2_with (first | ((with_reducible refine gate_callee (f := 17) rfl ?_); refine gsl (some 9) rfl Try.func17 #[.slice A0 l0.length c0] rfl ?_; (with_reducible refine (impl_PairsValid.calls k _ _ l0 true _ ?side1 ?side2 A4.out).mono ?_); (case side1 => exact cc (Kd.C_below HR0.out HB.out)); (case side2 => exact HC0.out); rintro e w7 ⟨rfl, hb⟩; refine ⟨_, rfl, ?_⟩; replace HB := an0 HB hb; (try clear hb); (try clear hb2); (try clear hk); (try clear hi)) | (go_at_call 40; (with_reducible refine (impl_PartitionValid.calls k _ _ l1 t311 _ ?side1 ?side2 A6.out).mono ?_); (case side1 => exact cc (Kd.C_below HR1.out HB.out)); (case side2 => exact HC1.out); rintro e w8 ⟨rfl, hb⟩; replace HB := an0 HB hb; (try clear hb); (try clear hb2); (try clear hk); (try clear hi)))
      go_meet
      case rel => exact ⟨_, (!t311), (by first | rfl | (simp; done) | (simp [*]; done) | (simp [bne_nil_, beq_nil_]; done)), H', ⟨by first | omega | exact Nat.le_refl _⟩, ⟨bp HB.out⟩⟩
    · replace c5 := Bool.eq_false_iff.mpr c5
      subst c5
      have H1 : (impl_PartDigests.j0 k l0 l1 true) = some r := by rw [if_neg (show ¬ (false = true) by decide)] at H; exact H
      clear H
      have H := H1
      clear H1
      have H' := Aside0.mk H
      clear H
      go_wp2_with (first | ((with_reducible refine gate_callee (f := 17) rfl ?_); refine gsl (some 9) rfl Try.func17 #[.slice A0 l0.length c0] rfl ?_; (with_reducible refine (impl_PairsValid.calls k _ _ l0 false _ ?side1 ?side2 A4.out).mono ?_); (case side1 => exact cc (Kd.C_below HR0.out HB.out)); (case side2 => exact HC0.out); rintro e w9 ⟨rfl, hb⟩; refine ⟨_, rfl, ?_⟩; replace HB := an0 HB hb; (try clear hb); (try clear hb2); (try clear hk); (try clear hi)))
      go_meet
      case rel => exact ⟨_, (true), (by first | rfl | (simp; done) | (simp [*]; done) | (simp [bne_nil_, beq_nil_]; done)), H', ⟨by first | omega | exact Nat.le_refl _⟩, ⟨bp HB.out⟩⟩
  case rest =>
    clear HC3
    try clear c1
    try clear p2
    try clear c3
    try clear c5
    obtain ⟨kq, x15_2, rfl, HA, HJ2, HB⟩ := hcut
    cases kq with
    | zero => exact absurd HA.out (by simp [impl_PartDigests.j0])
    | succ kj2 =>
      have H := HA.out
      clear HA
      simp only [impl_PartDigests.j0] at H
      by_cases c10 : x15_2 = true
      · subst c10
        have H1 : (some ([] : List Int)) = some r := by rw [if_pos rfl] at H; exact H
        clear H
        have H := H1
        clear H1
        obtain rfl := Option.some.inj H
        go_wp2
        go_ret
        exact ⟨_, fe, by first | exact Kd.R_nil _ _ _ _ _ | exact Kd.N_nil _ _ _ _ _ | exact Kd.V_nil _ _ _ _ _ | exact Kd.Q_nil _ _ _ _ _ | exact Kd.S_nil _ _ _ _ _, bp HB.out⟩
      · replace c10 := Bool.eq_false_iff.mpr c10
        subst c10
        have H1 : (impl_PartDigests.l0 kj2 l0 ([] : List Int) l1 (l1.length : Int) 0) = some r := by rw [if_neg (show ¬ (false = true) by decide)] at H; exact H
        clear H
        have H := H1
        clear H1
        have H' := Aside0.mk H
        clear H
        go_wp2
        go_loopg [5, 18] kj2 (fun kq v5 v18 w' => ∃ (x5_2 : List Int) (x18_2 : Int), v18 = .int .i64 x18_2 ∧ Aside0 (impl_PartDigests.l0 kq l0 x5_2 l1 (l1.length : Int) x18_2 = some r) ∧ Aside0 (kq ≤ kj2) ∧ Aside0 (Kd.R (Kd.int .i64) 3 w' w.heap.size (fun _ => True) v5 x5_2) ∧ Aside0 (Below w.heap.size w w'))
        case atStart => exact ⟨(([] : List Int)), (0), (by first | rfl | (simp; done) | (simp [*]; done) | (simp [bne_nil_, beq_nil_]; done)), H', ⟨Nat.le_refl _⟩, ⟨by first | exact Kd.R_nil _ _ _ _ _ | exact Kd.N_nil _ _ _ _ _ | exact Kd.V_nil _ _ _ _ _ | exact Kd.Q_nil _ _ _ _ _ | exact Kd.S_nil _ _ _ _ _⟩, ⟨bp HB.out⟩⟩
        case round =>
          clear H'
          try clear c1
          try clear p2
          try clear c3
          try clear c5
          try clear p6
          try clear c10
          try clear p2
          obtain ⟨x5_2, x18_2, rfl, HA, HK2, HO_5, HB⟩ := hrel
          cases gk with
          | zero => exact absurd HA.out (by simp [impl_PartDigests.l0])
          | succ k2 =>
            have H := HA.out
            clear HA
            simp only [impl_PartDigests.l0] at H
            by_cases c11 : x18_2 < (l1.length : Int)
            · rw [if_pos c11] at H
              have c11b0 : decide (x18_2 < (l1.length : Int)) = true := decide_eq_true c11
              clear c11
              by_cases c12 : 0 ≤ x18_2
              · rw [if_pos c12] at H
                have c12b0 : decide (0 ≤ x18_2) = true := decide_eq_true c12
                clear c12
                by_cases c13 : x18_2 < (l1.length : Int)
                · rw [if_pos c13] at H
                  have c13b0 : decide (x18_2 < (l1.length : Int)) = true := decide_eq_true c13
                  clear c13
                  replace H := Option.bind_eq_some_iff.mp H
                  obtain ⟨t314, A140, H⟩ := H
                  replace H : ((impl_PairsDigest.f k2 t314).bind fun t317 => (if x5_2.length < 17592186044416 then (impl_PartDigests.l0 k2 l0 (x5_2 ++ [t317]) l1 (l1.length : Int) (wrap64 (x18_2 + 1))) else (none))) = some r := H
                  have A14 := Aside0.mk A140
                  clear A140
                  replace H := Option.bind_eq_some_iff.mp H
                  obtain ⟨t317, A150, H⟩ := H
                  replace H : (if x5_2.length < 17592186044416 then (impl_PartDigests.l0 k2 l0 (x5_2 ++ [t317]) l1 (l1.length : Int) (wrap64 (x18_2 + 1))) else (none)) = some r := H
                  have A15 := Aside0.mk A150
                  clear A150
                  by_cases c16 : x5_2.length < 17592186044416
                  · rw [if_pos c16] at H
                    have LMc16 := Aside0.mk c16
                    clear c16
                    obtain ⟨y318, hy318⟩ : ∃ y_ : List Int, y_ = (x5_2 ++ [t317]) := ⟨_, rfl⟩
                    replace H : (impl_PartDigests.l0 k2 l0 y318 l1 (l1.length : Int) (wrap64 (x18_2 + 1))) = some r := by first | (rw [hy318]; with_reducible exact H) | (have H2_ := (Option.bind_some _ _).symm.trans H; rw [hy318]; with_reducible exact H2_) | (have H2_ := (Option.bind_some _ _).symm.trans H; with_reducible exact H2_) | with_reducible exact H | (rw [hy318]; exact H) | exact H
                    have Ny318 := Aside0.mk hy318
                    clear hy318
                    have H' := Aside0.mk H
                    clear H
                    have p312 : 0 ≤ (x18_2 : Int) := of_decide_eq_true (by first | (with_reducible assumption) | assumption)
                    have q312 : x18_2 < (l1.length : Int) := of_decide_eq_true (by first | (with_reducible assumption) | assumption)
                    obtain ⟨ad312, e312, hx312_0, hx312_1⟩ := at_T83 HR1.out x18_2 p312 q312
                    cases e312
                    replace hx312_0 := hcx HB hx312_0
                    replace hx312_1 := hcx HB hx312_1
                    replace p312 := eq_true p312
                    replace q312 := eq_true q312
                    go_wp2_with (first | ((with_reducible refine gate_dst (N := 7) rfl ?_); refine bxe (N := 7) (cs := #[.string (⟨#[]⟩ : ByteArray), .string (⟨#[]⟩ : ByteArray)]) (t := 83) ?_; intro gb313 hg w17 hbox hb; have n0_ := Aside0.mk (Kd.R_below (kr HO_5.out) hb); have n1_ := an0 HB hb; have n2_ := Aside0.mk (hbox); have n3_ := an2 HB hg; have n4_ := an2 HB hg; clear HO_5; clear HB; have HO_5 := n0_; have HB := n1_; have BK313 := n2_; have GW313 := n3_; have GE313 := n4_; clear n0_ n1_ n2_ n3_ n4_; clear hb hbox hg; obtain ⟨hcz18_0, hcz18_1, hfz18_0, hfz18_1⟩ := cl2 BK313) | ((with_reducible refine gate_callee (f := 62) rfl ?_); refine gsl (some 25) rfl Try.func62 #[.slice A0 l0.length c0, .agg #[.string ((rd_T83 l1 x18_2).f0), .string ((rd_T83 l1 x18_2).f1)]] rfl ?_; (with_reducible refine (impl_PairsIn.calls k2 _ _ l0 ((rd_T83 l1 x18_2).f0) ((rd_T83 l1 x18_2).f1) t314 _ ?side1 ?side2 A14.out).mono ?_); (case side1 => exact Kd.C_below HR0.out (bp HB.out)); (case side2 => exact HC0.out); rintro e w19 ⟨v315, rfl, ho0, hb⟩; refine ⟨_, rfl, ?_⟩; have n0_ := Aside0.mk (Kd.R_below (by (with_reducible repeat (first | apply Kd.R_alloc | apply Kd.R_drewN | apply Kd.R_drew)); exact (Kd.R_mono (Kd.R_far (p := ⟨gb313, 1, none⟩) (Kd.R_far (p := ⟨gb313, 0, none⟩) (Kd.R_types HO_5.out BK313.out (by decide)) (fun _ hk => hk.2) (.string ((rd_T83 l1 x18_2).f0))) (fun _ hk => hk.2) (.string ((rd_T83 l1 x18_2).f1))) (fun _ h_ => h_.1))) hb); have n1_ := Aside0.mk (Kd.R_lower ho0 (below_size (bp HB.out))); have n2_ := Aside0.mk (blk_below (g := gb313) (o := .cells #[.string ((rd_T83 l1 x18_2).f0), .string ((rd_T83 l1 x18_2).f1)] 83 (0, 0)) (by (with_reducible repeat (first | refine blk_drewN ?_ _ | refine blk_drew ?_ | refine blk_alloc ?_ _)); refine blk_put (cs := #[.string ((rd_T83 l1 x18_2).f0), .string (⟨#[]⟩ : ByteArray)]) ?_ 1 _ rfl; (with_reducible repeat (first | refine blk_drewN ?_ _ | refine blk_drew ?_ | refine blk_alloc ?_ _)); refine blk_put (cs := #[.string (⟨#[]⟩ : ByteArray), .string (⟨#[]⟩ : ByteArray)]) ?_ 0 _ rfl; (with_reducible repeat (first | refine blk_drewN ?_ _ | refine blk_drew ?_ | refine blk_alloc ?_ _)); exact BK313.out) hb); have n3_ := an0 HB hb; clear HO_5; clear BK313; clear HB; have HO_5 := n0_; have HO316 := n1_; have BK313 := n2_; have HB := n3_; clear n0_ n1_ n2_ n3_; (try clear hb); (try clear hb2); (try clear hk); (try clear hi); (try clear ho0); obtain ⟨Ao20, co20, eo20⟩ := Kd.R_slice HO316.out; subst eo20) | ((with_reducible refine gate_callee (f := 15) rfl ?_); refine gsl (some 26) rfl Try.func15 #[.slice Ao20 t314.length co20] rfl ?_; (with_reducible refine (impl_PairsDigest.calls k2 _ _ t314 t317 _ ?side1 ?side2 A15.out).mono ?_); (case side1 => repeat (first | exact (Kd.R_reads' HO316.out).2.2 | (with_reducible refine Kd.C_alloc ?_ _) | (with_reducible refine Kd.C_drewN ?_ _) | (with_reducible refine Kd.C_drew ?_))); (case side2 => exact (Kd.R_reads' HO316.out).2.1); rintro e w21 ⟨rfl, hb⟩; refine ⟨_, rfl, ?_⟩; have n0_ := Aside0.mk (Kd.R_below (kr HO_5.out) hb); have n1_ := Aside0.mk (Kd.R_below (kr HO316.out) hb); have n2_ := an1 BK313 hb; have n3_ := an0 HB hb; clear HO_5; clear HO316; clear BK313; clear HB; have HO_5 := n0_; have HO316 := n1_; have BK313 := n2_; have HB := n3_; clear n0_ n1_ n2_ n3_; (try clear hb); (try clear hb2); (try clear hk); (try clear hi)) | ((with_reducible refine gate_builtin (b := .append) (xs := #[.tmp 22, .tmp 27]) rfl ?_); at_builtin; refine Kd.R_append (Kd.int .i64) (w0 := w) w.heap.size rfl (.tmp 22) (.tmp 27) 33 3 (.int .i64 0) 8 rfl Try.underlying33 info3 rfl (by decide) (by omega) u5 x5_2 t317 [.int .i64 t317] (fun _ => True) (fun _ => False) rfl rfl ?aP (fun _ hk => hk.elim) ?aF ?aO ?aB ?aS ?aL ?_; (case aP => exact rfl); (case aB => exact (bp HB.out)); (case aF => exact (fun _ _ => trivial)); (case aO => exact (kr HO_5.out)); (case aS => exact (below_size (bp HB.out))); (case aL => have := LMc16.out; omega); intro v319 w22 ho hb hg hat; rw [← Ny318.out] at ho; have n0_ := Aside0.mk (blk_grown (g := gb313) (o := .cells #[.string ((rd_T83 l1 x18_2).f0), .string ((rd_T83 l1 x18_2).f1)] 83 (0, 0)) (kb BK313.out) hg (Kd.R_ne HO_5.out BK313.out (by decide))); have n1_ := Aside0.mk (Kd.R_over' (kr HO316.out) (Kd.R_typed (kr HO_5.out)) (by decide) hg); have n2_ := Aside0.mk (hb); have n3_ := Aside0.mk (ho); clear BK313; clear HO316; clear HB; clear HO_5; have BK313 := n0_; have HO316 := n1_; have HB := n2_; have HO320 := n3_; clear n0_ n1_ n2_ n3_; clear ho hb hg hat))
                    go_roundg k2
                    case measure => have := HJ2.out; have := HK2.out; omega
                    case rel => exact ⟨(y318), (wrap64 (x18_2 + 1)), (by first | rfl | (simp; done) | (simp [*]; done) | (simp [bne_nil_, beq_nil_]; done)), H', ⟨by have := HJ2.out; have := HK2.out; omega⟩, ⟨by (with_reducible repeat (first | apply Kd.R_alloc | apply Kd.R_drewN | apply Kd.R_drew)); exact HO320.out⟩, ⟨bp HB.out⟩⟩
                  · rw [if_neg c16] at H
                    exact absurd H (by simp)
                · rw [if_neg c13] at H
                  exact absurd H (by simp)
              · rw [if_neg c12] at H
                exact absurd H (by simp)
            · rw [if_neg c11] at H
              have c11b0 : decide (x18_2 < (l1.length : Int)) = false := decide_eq_false c11
              clear c11
              obtain rfl := Option.some.inj H
              go_wp2
              go_ret
              exact ⟨_, fe, by (with_reducible repeat (first | apply Kd.R_alloc | apply Kd.R_drewN | apply Kd.R_drew)); exact HO_5.out, bp HB.out⟩

end Go.Proofs.Ytfeeifefmenlmaa.PFnExactDiffParts
