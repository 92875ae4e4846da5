-- Written by a program of this session, in the manner of the kit's print (wip/pp.py): functions and their contracts.
import Derived.Test.YtfeeifefmenlmaaPFnExactApplyFeedx0
import Derived.Test.YtfeeifefmenlmaaPFnExactApplyFeedx6
import Derived.Test.YtfeeifefmenlmaaPFnExactApplyFeedx7
namespace Go.Proofs.Ytfeeifefmenlmaa.PFnExactApplyFeed
open Go.RowKit Go.Proofs.YtfeeifefmenlmaaW.PrintWords Go.Proofs.YtfeeifefmenlmaaW.PrintLast Go.Proofs.YtfeeifefmenlmaaW.PrintMore
attribute [local go_sem] binOp_leq_str binOp_gtr_str binOp_geq_str max2_int min2_int max_two min_two max_three min_three max_four min_four   -- for this text's walks alone
set_option linter.unusedVariables false
set_option linter.unusedSimpArgs false

/-! ### impl_Pair_string: function 148 -/
def impl_Pair_string.l0 : Nat → List (S29) → ByteArray → Int → Int → Int → Option (Int × Bool)
  | 0, _, _, _, _, _ => none
  | k + 1, x0, x1, x8, x9, x10 => if x9 < x10 then (if 0 ≤ (wrap64 ((IntKind.u64.wrap (wrap64 (x9 + x10))) / 2)) then (if (wrap64 ((IntKind.u64.wrap (wrap64 (x9 + x10))) / 2)) < (x0.length : Int) then ((impl_pairPlace_1.f ((rd_T29 x0 (wrap64 ((IntKind.u64.wrap (wrap64 (x9 + x10))) / 2))).f0) ((rd_T29 x0 (wrap64 ((IntKind.u64.wrap (wrap64 (x9 + x10))) / 2))).f1) x1).bind fun t263 => (if t263 < 0 then (impl_Pair_string.l0 k x0 x1 x8 (wrap64 ((wrap64 ((IntKind.u64.wrap (wrap64 (x9 + x10))) / 2)) + 1)) x10) else (impl_Pair_string.l0 k x0 x1 x8 x9 (wrap64 ((IntKind.u64.wrap (wrap64 (x9 + x10))) / 2))))) else (none)) else (none)) else (if x9 < x8 then (if 0 ≤ x9 then (if x9 < (x0.length : Int) then ((impl_pairPlace_1.f ((rd_T29 x0 x9).f0) ((rd_T29 x0 x9).f1) x1).bind fun t265 => (some (x9, (t265 == 0)))) else (none)) else (none)) else (some (x9, false)))
def impl_Pair_string.f (k : Nat) (l0 : List (S29)) (a1 : ByteArray) (a2 : Unit) : Option (Int × Bool) := impl_Pair_string.l0 k l0 a1 (l0.length : Int) 0 (l0.length : Int)
theorem impl_Pair_string.mono_l : ∀ k, (∀ y0 y1 y2 y3 y4, LeO (impl_Pair_string.l0 k y0 y1 y2 y3 y4) (impl_Pair_string.l0 (k + 1) y0 y1 y2 y3 y4))
  | 0 => fun _ _ _ _ _ r h => by simp [impl_Pair_string.l0] at h
  | k + 1 => by
    have ih0 := impl_Pair_string.mono_l k
    · intro y0 y1 y2 y3 y4
      unfold impl_Pair_string.l0
      repeat' first
      | (with_reducible exact ih0 _ _ _ _ _)
      | (with_reducible exact LeO.refl _)
      | (with_reducible exact LeO.none _)
      | (with_reducible refine LeO.ite ?_ ?_)
      | (with_reducible refine LeO.bind ?_ (fun _ => ?_))
      | exact ih0 _ _ _ _ _
      | exact LeO.none _
      | refine LeO.ite ?_ ?_
      | refine LeO.bind ?_ (fun _ => ?_)
theorem impl_Pair_string.mono : ∀ a0 a1 a2 k, LeO (impl_Pair_string.f k a0 a1 a2) (impl_Pair_string.f (k + 1) a0 a1 a2) := by
  intro a0 a1 a2 k
  have ih0 := impl_Pair_string.mono_l k
  unfold impl_Pair_string.f
  repeat' first
      | (with_reducible exact ih0 _ _ _ _ _)
      | (with_reducible exact LeO.refl _)
      | (with_reducible exact LeO.none _)
      | (with_reducible refine LeO.ite ?_ ?_)
      | (with_reducible refine LeO.bind ?_ (fun _ => ?_))
      | exact ih0 _ _ _ _ _
      | exact LeO.none _
      | refine LeO.ite ?_ ?_
      | refine LeO.bind ?_ (fun _ => ?_)
set_option maxHeartbeats 8000000 in
set_option maxRecDepth 100000 in
theorem impl_Pair_string.calls (k : Nat) (A0 : Option Addr) (c0 : Nat) (l0 : List (S29)) (a1 : ByteArray) (a2 : Unit) (r1 : Int) (r2 : Bool) (w : World) (hr0 : Kd.C k29 w A0 l0.length l0) (hc0 : l0.length ≤ c0) (h : impl_Pair_string.f k l0 a1 a2 = some (r1, r2)) :
    Calls Try.prog 148 #[.slice A0 l0.length c0, .string a1, .func (.func 149) #[] #[]] w fun e w' => e = .returned (.tuple #[.int .i64 r1, .bool r2]) ∧ Below w.heap.size w w' := by
  have hu29 := Try.underlying29
  have HR0 := Aside0.mk hr0
  have HC0 := Aside0.mk hc0
  clear hr0 hc0
  have HB := Aside0.mk (Below.refl w.heap.size w)
  have H : (impl_Pair_string.l0 k l0 a1 (l0.length : Int) 0 (l0.length : Int)) = some (r1, r2) := h
  clear h
  have H' := Aside0.mk H
  clear H
  go_enter Try.func148, Try.ntmps148
  go_wp2
  go_loopg [9, 10] k (fun kq v9 v10 w' => ∃ (x9_1 : Int) (x10_1 : Int), v9 = .int .i64 x9_1 ∧ v10 = .int .i64 x10_1 ∧ Aside0 (impl_Pair_string.l0 kq l0 a1 (l0.length : Int) x9_1 x10_1 = some (r1, r2)) ∧ Aside0 (kq ≤ k) ∧ Aside0 (Below w.heap.size w w'))
  case atStart => exact ⟨(0), ((l0.length : Int)), (by first | rfl | (simp; done) | (simp [*]; done) | (simp [bne_nil_, beq_nil_]; done)), (by first | rfl | (simp; done) | (simp [*]; done) | (simp [bne_nil_, beq_nil_]; done)), H', ⟨Nat.le_refl _⟩, ⟨bp HB.out⟩⟩
  case round =>
    clear H'
    try clear c1
    try clear p2
    obtain ⟨x9_1, x10_1, rfl, rfl, HA, HK1, HB⟩ := hrel
    cases gk with
    | zero => exact absurd HA.out (by simp [impl_Pair_string.l0])
    | succ k1 =>
      have H := HA.out
      clear HA
      simp only [impl_Pair_string.l0] at H
      by_cases c4 : x9_1 < x10_1
      · rw [if_pos c4] at H
        have c4b0 : decide (x9_1 < x10_1) = true := decide_eq_true c4
        clear c4
        obtain ⟨ji5, hji5⟩ : ∃ j_ : Int, (wrap64 ((IntKind.u64.wrap (wrap64 (x9_1 + x10_1))) / 2)) = j_ := ⟨_, rfl⟩
        replace H : (if 0 ≤ (ji5) then (if (ji5) < (l0.length : Int) then ((impl_pairPlace_1.f ((rd_T29 l0 (ji5)).f0) ((rd_T29 l0 (ji5)).f1) a1).bind fun t263 => (if t263 < 0 then (impl_Pair_string.l0 k1 l0 a1 (l0.length : Int) (wrap64 ((ji5) + 1)) x10_1) else (impl_Pair_string.l0 k1 l0 a1 (l0.length : Int) x9_1 ji5))) else (none)) else (none)) = some (r1, r2) := by first | (rw [hji5] at H; exact H) | (simp only [hji5] at H ⊢; exact H)
        have hji5w : (IntKind.i64.wrap ((IntKind.u64.wrap (wrap64 (x9_1 + x10_1))) / 2)) = ji5 := (i64_w _).trans hji5
        by_cases c6 : 0 ≤ (ji5)
        · rw [if_pos c6] at H
          have c6b0 : decide (0 ≤ (ji5)) = true := decide_eq_true c6
          clear c6
          by_cases c7 : (ji5) < (l0.length : Int)
          · rw [if_pos c7] at H
            have c7b0 : decide ((ji5) < (l0.length : Int)) = true := decide_eq_true c7
            clear c7
            replace H := Option.bind_eq_some_iff.mp H
            obtain ⟨t263, A80, H⟩ := H
            replace H : (if t263 < 0 then (impl_Pair_string.l0 k1 l0 a1 (l0.length : Int) (wrap64 ((ji5) + 1)) x10_1) else (impl_Pair_string.l0 k1 l0 a1 (l0.length : Int) x9_1 ji5)) = some (r1, r2) := H
            have A8 := Aside0.mk A80
            clear A80
            by_cases c9 : t263 < 0
            · rw [if_pos c9] at H
              have c9b0 : decide (t263 < 0) = true := decide_eq_true c9
              clear c9
              have H' := Aside0.mk H
              clear H
              have p262 : 0 ≤ ((ji5) : Int) := of_decide_eq_true (by first | (with_reducible assumption) | assumption)
              have q262 : (ji5) < (l0.length : Int) := of_decide_eq_true (by first | (with_reducible assumption) | assumption)
              obtain ⟨ad262, e262, hx262_0, hx262_1⟩ := at_T29 HR0.out (ji5) p262 q262
              cases e262
              replace hx262_0 := hcx HB hx262_0
              replace hx262_1 := hcx HB hx262_1
              replace p262 := eq_true p262
              replace q262 := eq_true q262
              go_wp2_with (first | (go_at_call 149; (with_reducible refine (impl_pairPlace_1.calls ((rd_T29 l0 (ji5)).f0) ((rd_T29 l0 (ji5)).f1) a1 t263 _ A8.out).mono ?_); rintro e w10 ⟨rfl, hb⟩; replace HB := an0 HB hb; (try clear hb); (try clear hb2); (try clear hk); (try clear hi)))
              go_roundg k1
              case measure => have := HK1.out; omega
              case rel => exact ⟨(wrap64 ((ji5) + 1)), (x10_1), (by first | rfl | (simp; done) | (simp only [← hji5] <;> (first | rfl | (simp; done) | (simp [bne_nil_, beq_nil_]; done))) | (simp [*]; done) | (simp [bne_nil_, beq_nil_]; done)), (by first | rfl | (simp; done) | (simp [*]; done) | (simp [bne_nil_, beq_nil_]; done)), H', ⟨by have := HK1.out; omega⟩, ⟨bp HB.out⟩⟩
            · rw [if_neg c9] at H
              have c9b0 : decide (t263 < 0) = false := decide_eq_false c9
              clear c9
              have H' := Aside0.mk H
              clear H
              have p262 : 0 ≤ ((ji5) : Int) := of_decide_eq_true (by first | (with_reducible assumption) | assumption)
              have q262 : (ji5) < (l0.length : Int) := of_decide_eq_true (by first | (with_reducible assumption) | assumption)
              obtain ⟨ad262, e262, hx262_0, hx262_1⟩ := at_T29 HR0.out (ji5) p262 q262
              cases e262
              replace hx262_0 := hcx HB hx262_0
              replace hx262_1 := hcx HB hx262_1
              replace p262 := eq_true p262
              replace q262 := eq_true q262
              go_wp2_with (first | (go_at_call 149; (with_reducible refine (impl_pairPlace_1.calls ((rd_T29 l0 (ji5)).f0) ((rd_T29 l0 (ji5)).f1) a1 t263 _ A8.out).mono ?_); rintro e w11 ⟨rfl, hb⟩; replace HB := an0 HB hb; (try clear hb); (try clear hb2); (try clear hk); (try clear hi)))
              go_roundg k1
              case measure => have := HK1.out; omega
              case rel => exact ⟨(x9_1), (ji5), (by first | rfl | (simp; done) | (simp [*]; done) | (simp [bne_nil_, beq_nil_]; done)), (by first | rfl | (simp; done) | (simp only [← hji5] <;> (first | rfl | (simp; done) | (simp [bne_nil_, beq_nil_]; done))) | (simp [*]; done) | (simp [bne_nil_, beq_nil_]; done)), H', ⟨by have := HK1.out; omega⟩, ⟨bp HB.out⟩⟩
          · rw [if_neg c7] at H
            exact absurd H (by simp)
        · rw [if_neg c6] at H
          exact absurd H (by simp)
      · rw [if_neg c4] at H
        have c4b0 : decide (x9_1 < x10_1) = false := decide_eq_false c4
        clear c4
        by_cases c12 : x9_1 < (l0.length : Int)
        · rw [if_pos c12] at H
          have c12b0 : decide (x9_1 < (l0.length : Int)) = true := decide_eq_true c12
          clear c12
          by_cases c13 : 0 ≤ x9_1
          · rw [if_pos c13] at H
            have c13b0 : decide (0 ≤ x9_1) = true := decide_eq_true c13
            clear c13
            by_cases c14 : x9_1 < (l0.length : Int)
            · rw [if_pos c14] at H
              have c14b0 : decide (x9_1 < (l0.length : Int)) = true := decide_eq_true c14
              clear c14
              replace H := Option.bind_eq_some_iff.mp H
              obtain ⟨t265, A150, H⟩ := H
              replace H : (some (x9_1, (t265 == 0))) = some (r1, r2) := H
              have A15 := Aside0.mk A150
              clear A150
              simp only [Option.some.injEq, Prod.mk.injEq] at H
              obtain ⟨rfl, rfl⟩ := H
              have p264 : 0 ≤ (x9_1 : Int) := of_decide_eq_true (by first | (with_reducible assumption) | assumption)
              have q264 : x9_1 < (l0.length : Int) := of_decide_eq_true (by first | (with_reducible assumption) | assumption)
              obtain ⟨ad264, e264, hx264_0, hx264_1⟩ := at_T29 HR0.out x9_1 p264 q264
              cases e264
              replace hx264_0 := hcx HB hx264_0
              replace hx264_1 := hcx HB hx264_1
              replace p264 := eq_true p264
              replace q264 := eq_true q264
              go_wp2_with (first | (go_at_call 149; (with_reducible refine (impl_pairPlace_1.calls ((rd_T29 l0 x9_1).f0) ((rd_T29 l0 x9_1).f1) a1 t265 _ A15.out).mono ?_); rintro e w16 ⟨rfl, hb⟩; replace HB := an0 HB hb; (try clear hb); (try clear hb2); (try clear hk); (try clear hi)))
              go_ret2
              exact ⟨fe, bp HB.out⟩
            · rw [if_neg c14] at H
              exact absurd H (by simp)
          · rw [if_neg c13] at H
            exact absurd H (by simp)
        · rw [if_neg c12] at H
          have c12b0 : decide (x9_1 < (l0.length : Int)) = false := decide_eq_false c12
          clear c12
          simp only [Option.some.injEq, Prod.mk.injEq] at H
          obtain ⟨rfl, rfl⟩ := H
          go_wp2
          go_ret2
          exact ⟨fe, bp HB.out⟩

/-! ### impl_pairPlace: function 115 -/
def impl_pairPlace.f (k : Nat) (l0 : List (S29)) (a1 : ByteArray) : Option (Int × Bool) := (impl_Pair_string.f k l0 a1 ()).bind fun bt266 => (some (bt266.1, bt266.2))
theorem impl_pairPlace.mono : ∀ a0 a1 k, LeO (impl_pairPlace.f k a0 a1) (impl_pairPlace.f (k + 1) a0 a1) := by
  intro a0 a1 k
  unfold impl_pairPlace.f
  repeat' first
      | (with_reducible exact impl_Pair_string.mono _ _ _ _)
      | (with_reducible exact LeO.refl _)
      | (with_reducible exact LeO.none _)
      | (with_reducible refine LeO.ite ?_ ?_)
      | (with_reducible refine LeO.bind ?_ (fun _ => ?_))
      | exact impl_Pair_string.mono _ _ _ _
      | exact LeO.none _
      | refine LeO.ite ?_ ?_
      | refine LeO.bind ?_ (fun _ => ?_)
set_option maxHeartbeats 8000000 in
set_option maxRecDepth 100000 in
theorem impl_pairPlace.calls (k : Nat) (A0 : Option Addr) (c0 : Nat) (l0 : List (S29)) (a1 : ByteArray) (r1 : Int) (r2 : Bool) (w : World) (hr0 : Kd.C k29 w A0 l0.length l0) (hc0 : l0.length ≤ c0) (h : impl_pairPlace.f k l0 a1 = some (r1, r2)) :
    Calls Try.prog 115 #[.slice A0 l0.length c0, .string a1] w fun e w' => e = .returned (.tuple #[.int .i64 r1, .bool r2]) ∧ Below w.heap.size w w' := by
  have HR0 := Aside0.mk hr0
  have HC0 := Aside0.mk hc0
  clear hr0 hc0
  have HB := Aside0.mk (Below.refl w.heap.size w)
  have H : ((impl_Pair_string.f k l0 a1 ()).bind fun bt266 => (some (bt266.1, bt266.2))) = some (r1, r2) := h
  clear h
  replace H := Option.bind_eq_some_iff.mp H
  obtain ⟨⟨t266, t267⟩, A30, H⟩ := H
  replace H : (some (t266, t267)) = some (r1, r2) := H
  have A3 := Aside0.mk A30
  clear A30
  simp only [Option.some.injEq, Prod.mk.injEq] at H
  obtain ⟨rfl, rfl⟩ := H
  go_enter Try.func115, Try.ntmps115
  go_wp2_with (first | ((with_reducible refine gate_callee (f := 148) rfl ?_); refine gsl (some 8) rfl Try.func148 #[.slice A0 l0.length c0, .string a1, .func (.func 149) #[] #[]] rfl ?_; (with_reducible refine (impl_Pair_string.calls k _ _ l0 a1 () t266 t267 _ ?side1 ?side2 A3.out).mono ?_); (case side1 => exact cc HR0.out); (case side2 => exact HC0.out); rintro e w4 ⟨rfl, hb⟩; refine ⟨_, rfl, ?_⟩; replace HB := an0 HB hb; (try clear hb); (try clear hb2); (try clear hk); (try clear hi)))
  go_ret2
  exact ⟨fe, bp HB.out⟩

/-! ### impl_PairGet: function 97 -/
def impl_PairGet.f (k : Nat) (l0 : List (S29)) (a1 : ByteArray) : Option (Int) := (impl_PairsValid.f k l0).bind fun t268 => (if t268 = true then ((impl_pairPlace.f k l0 a1).bind fun bt269 => (if bt269.2 = true then (if 0 ≤ bt269.1 then (if bt269.1 < (l0.length : Int) then (some ((rd_T29 l0 bt269.1).f1)) else (none)) else (none)) else (some (-1)))) else (some (-1)))
theorem impl_PairGet.mono : ∀ a0 a1 k, LeO (impl_PairGet.f k a0 a1) (impl_PairGet.f (k + 1) a0 a1) := by
  intro a0 a1 k
  unfold impl_PairGet.f
  repeat' first
      | (with_reducible exact impl_PairsValid.mono _ _)
      | (with_reducible exact impl_pairPlace.mono _ _ _)
      | (with_reducible exact LeO.refl _)
      | (with_reducible exact LeO.none _)
      | (with_reducible refine LeO.ite ?_ ?_)
      | (with_reducible refine LeO.bind ?_ (fun _ => ?_))
      | exact impl_PairsValid.mono _ _
      | exact impl_pairPlace.mono _ _ _
      | exact LeO.none _
      | refine LeO.ite ?_ ?_
      | refine LeO.bind ?_ (fun _ => ?_)
set_option maxHeartbeats 8000000 in
set_option maxRecDepth 100000 in
theorem impl_PairGet.calls (k : Nat) (A0 : Option Addr) (c0 : Nat) (l0 : List (S29)) (a1 : ByteArray) (r : Int) (w : World) (hr0 : Kd.C k29 w A0 l0.length l0) (hc0 : l0.length ≤ c0) (h : impl_PairGet.f k l0 a1 = some r) :
    Calls Try.prog 97 #[.slice A0 l0.length c0, .string a1] w fun e w' => e = .returned (.int .i64 r) ∧ Below w.heap.size w w' := by
  have HR0 := Aside0.mk hr0
  have HC0 := Aside0.mk hc0
  clear hr0 hc0
  have HB := Aside0.mk (Below.refl w.heap.size w)
  have H : ((impl_PairsValid.f k l0).bind fun t268 => (if t268 = true then ((impl_pairPlace.f k l0 a1).bind fun bt269 => (if bt269.2 = true then (if 0 ≤ bt269.1 then (if bt269.1 < (l0.length : Int) then (some ((rd_T29 l0 bt269.1).f1)) else (none)) else (none)) else (some (-1)))) else (some (-1)))) = some r := h
  clear h
  replace H := Option.bind_eq_some_iff.mp H
  obtain ⟨t268, A30, H⟩ := H
  replace H : (if t268 = true then ((impl_pairPlace.f k l0 a1).bind fun bt269 => (if bt269.2 = true then (if 0 ≤ bt269.1 then (if bt269.1 < (l0.length : Int) then (some ((rd_T29 l0 bt269.1).f1)) else (none)) else (none)) else (some (-1)))) else (some (-1))) = some r := H
  have A3 := Aside0.mk A30
  clear A30
  by_cases c4 : t268 = true
  · subst c4
    have H1 : ((impl_pairPlace.f k l0 a1).bind fun bt269 => (if bt269.2 = true then (if 0 ≤ bt269.1 then (if bt269.1 < (l0.length : Int) then (some ((rd_T29 l0 bt269.1).f1)) else (none)) else (none)) else (some (-1)))) = some r := by rw [if_pos rfl] at H; exact H
    clear H
    have H := H1
    clear H1
    replace H := Option.bind_eq_some_iff.mp H
    obtain ⟨⟨t269, t270⟩, A50, H⟩ := H
    replace H : (if t270 = true then (if 0 ≤ t269 then (if t269 < (l0.length : Int) then (some ((rd_T29 l0 t269).f1)) else (none)) else (none)) else (some (-1))) = some r := H
    have A5 := Aside0.mk A50
    clear A50
    by_cases c6 : t270 = true
    · subst c6
      have H1 : (if 0 ≤ t269 then (if t269 < (l0.length : Int) then (some ((rd_T29 l0 t269).f1)) else (none)) else (none)) = some r := by rw [if_pos rfl] at H; exact H
      clear H
      have H := H1
      clear H1
      by_cases c7 : 0 ≤ t269
      · rw [if_pos c7] at H
        have c7b0 : decide (0 ≤ t269) = true := decide_eq_true c7
        clear c7
        by_cases c8 : t269 < (l0.length : Int)
        · rw [if_pos c8] at H
          have c8b0 : decide (t269 < (l0.length : Int)) = true := decide_eq_true c8
          clear c8
          obtain rfl := Option.some.inj H
          go_enter Try.func97, Try.ntmps97
          go_wp2_with (first | ((with_reducible refine gate_callee (f := 17) rfl ?_); refine gsl (some 8) rfl Try.func17 #[.slice A0 l0.length c0] rfl ?_; (with_reducible refine (impl_PairsValid.calls k _ _ l0 true _ ?side1 ?side2 A3.out).mono ?_); (case side1 => exact cc HR0.out); (case side2 => exact HC0.out); rintro e w9 ⟨rfl, hb⟩; refine ⟨_, rfl, ?_⟩; replace HB := an0 HB hb; (try clear hb); (try clear hb2); (try clear hk); (try clear hi)) | ((with_reducible refine gate_callee (f := 115) rfl ?_); refine gsl (some 13) rfl Try.func115 #[.slice A0 l0.length c0, .string a1] rfl ?_; (with_reducible refine (impl_pairPlace.calls k _ _ l0 a1 t269 true _ ?side1 ?side2 A5.out).mono ?_); (case side1 => exact cc (Kd.C_below HR0.out HB.out)); (case side2 => exact HC0.out); rintro e w10 ⟨rfl, hb⟩; refine ⟨_, rfl, ?_⟩; replace HB := an0 HB hb; (try clear hb); (try clear hb2); (try clear hk); (try clear hi); have p271 : 0 ≤ (t269 : Int) := of_decide_eq_true (by first | (with_reducible assumption) | assumption); have q271 : t269 < (l0.length : Int) := of_decide_eq_true (by first | (with_reducible assumption) | assumption); obtain ⟨ad271, e271, hx271_0, hx271_1⟩ := at_T29 HR0.out t269 p271 q271; cases e271; replace hx271_0 := hcx HB hx271_0; replace hx271_1 := hcx HB hx271_1; replace p271 := eq_true p271; replace q271 := eq_true q271))
          go_ret
          exact ⟨fe, bp HB.out⟩
        · rw [if_neg c8] at H
          exact absurd H (by simp)
      · rw [if_neg c7] at H
        exact absurd H (by simp)
    · replace c6 := Bool.eq_false_iff.mpr c6
      subst c6
      have H1 : (some (-1)) = some r := by rw [if_neg (show ¬ (false = true) by decide)] at H; exact H
      clear H
      have H := H1
      clear H1
      obtain rfl := Option.some.inj H
      go_enter Try.func97, Try.ntmps97
      go_wp2_with (first | ((with_reducible refine gate_callee (f := 17) rfl ?_); refine gsl (some 8) rfl Try.func17 #[.slice A0 l0.length c0] rfl ?_; (with_reducible refine (impl_PairsValid.calls k _ _ l0 true _ ?side1 ?side2 A3.out).mono ?_); (case side1 => exact cc HR0.out); (case side2 => exact HC0.out); rintro e w11 ⟨rfl, hb⟩; refine ⟨_, rfl, ?_⟩; replace HB := an0 HB hb; (try clear hb); (try clear hb2); (try clear hk); (try clear hi)) | ((with_reducible refine gate_callee (f := 115) rfl ?_); refine gsl (some 13) rfl Try.func115 #[.slice A0 l0.length c0, .string a1] rfl ?_; (with_reducible refine (impl_pairPlace.calls k _ _ l0 a1 t269 false _ ?side1 ?side2 A5.out).mono ?_); (case side1 => exact cc (Kd.C_below HR0.out HB.out)); (case side2 => exact HC0.out); rintro e w12 ⟨rfl, hb⟩; refine ⟨_, rfl, ?_⟩; replace HB := an0 HB hb; (try clear hb); (try clear hb2); (try clear hk); (try clear hi)))
      go_ret
      exact ⟨fe, bp HB.out⟩
  · replace c4 := Bool.eq_false_iff.mpr c4
    subst c4
    have H1 : (some (-1)) = some r := by rw [if_neg (show ¬ (false = true) by decide)] at H; exact H
    clear H
    have H := H1
    clear H1
    obtain rfl := Option.some.inj H
    go_enter Try.func97, Try.ntmps97
    go_wp2_with (first | ((with_reducible refine gate_callee (f := 17) rfl ?_); refine gsl (some 8) rfl Try.func17 #[.slice A0 l0.length c0] rfl ?_; (with_reducible refine (impl_PairsValid.calls k _ _ l0 false _ ?side1 ?side2 A3.out).mono ?_); (case side1 => exact cc HR0.out); (case side2 => exact HC0.out); rintro e w13 ⟨rfl, hb⟩; refine ⟨_, rfl, ?_⟩; replace HB := an0 HB hb; (try clear hb); (try clear hb2); (try clear hk); (try clear hi)))
    go_ret
    exact ⟨fe, bp HB.out⟩

/-! ### impl_Pair_137: function 137 -/
def impl_Pair_137.f (l0 : List (S29)) (a1 : Int) (a2 : Int) (l3 : List (S29)) : Option ((List (S29))) := if 0 ≤ (wrap64 ((wrap64 ((l0.length : Int) - a2)) + (l3.length : Int))) then (if (wrap64 ((wrap64 ((l0.length : Int) - a2)) + (l3.length : Int)) : Int).toNat ≤ 11728124029610 then ((some (([] : List (S29)) : List (S29))).bind fun y272 => (if 0 ≤ a1 then (if a1 ≤ (l0.length : Int) then ((some (l0.take (a1 : Int).toNat : List (S29))).bind fun y275 => (if y272.length + y275.length < 5864062014805 then ((some (y272 ++ y275 : List (S29))).bind fun y279 => (if y279.length + l3.length < 5864062014805 then ((some (y279 ++ l3 : List (S29))).bind fun y282 => (if 0 ≤ (wrap64 (a1 + a2)) then (if (wrap64 (a1 + a2)) ≤ (l0.length : Int) then ((some (l0.drop ((wrap64 (a1 + a2)) : Int).toNat : List (S29))).bind fun y285 => (if y282.length + y285.length < 5864062014805 then (some (y282 ++ y285)) else (none))) else (none)) else (none))) else (none))) else (none))) else (none)) else (none))) else (none)) else (none)
set_option maxHeartbeats 8000000 in
set_option maxRecDepth 100000 in
theorem impl_Pair_137.calls (A0 : Option Addr) (c0 : Nat) (l0 : List (S29)) (a1 : Int) (a2 : Int) (A3 : Option Addr) (c3 : Nat) (l3 : List (S29)) (r : List (S29)) (w : World) (hr0 : Kd.C k29 w A0 l0.length l0) (hc0 : l0.length ≤ c0) (hr3 : Kd.C k29 w A3 l3.length l3) (hc3 : l3.length ≤ c3) (h : impl_Pair_137.f l0 a1 a2 l3 = some r) :
    Calls Try.prog 137 #[.slice A0 l0.length c0, .int .i64 a1, .int .i64 a2, .slice A3 l3.length c3] w fun e w' => ∃ v0_ : Value, e = .returned (v0_) ∧ Kd.R k29 29 w' w.heap.size (fun _ => True) v0_ r ∧ Below w.heap.size w w' := by
  have HR0 := Aside0.mk hr0
  have HC0 := Aside0.mk hc0
  clear hr0 hc0
  have HR3 := Aside0.mk hr3
  have HC3 := Aside0.mk hc3
  clear hr3 hc3
  have HB := Aside0.mk (Below.refl w.heap.size w)
  have H : (if 0 ≤ (wrap64 ((wrap64 ((l0.length : Int) - a2)) + (l3.length : Int))) then (if (wrap64 ((wrap64 ((l0.length : Int) - a2)) + (l3.length : Int)) : Int).toNat ≤ 11728124029610 then ((some (([] : List (S29)) : List (S29))).bind fun y272 => (if 0 ≤ a1 then (if a1 ≤ (l0.length : Int) then ((some (l0.take (a1 : Int).toNat : List (S29))).bind fun y275 => (if y272.length + y275.length < 5864062014805 then ((some (y272 ++ y275 : List (S29))).bind fun y279 => (if y279.length + l3.length < 5864062014805 then ((some (y279 ++ l3 : List (S29))).bind fun y282 => (if 0 ≤ (wrap64 (a1 + a2)) then (if (wrap64 (a1 + a2)) ≤ (l0.length : Int) then ((some (l0.drop ((wrap64 (a1 + a2)) : Int).toNat : List (S29))).bind fun y285 => (if y282.length + y285.length < 5864062014805 then (some (y282 ++ y285)) else (none))) else (none)) else (none))) else (none))) else (none))) else (none)) else (none))) else (none)) else (none)) = some r := h
  clear h
  obtain ⟨ji5, hji5⟩ : ∃ j_ : Int, (wrap64 ((wrap64 ((l0.length : Int) - a2)) + (l3.length : Int))) = j_ := ⟨_, rfl⟩
  replace H : (if 0 ≤ (ji5) then (if (ji5 : Int).toNat ≤ 11728124029610 then ((some (([] : List (S29)) : List (S29))).bind fun y272 => (if 0 ≤ a1 then (if a1 ≤ (l0.length : Int) then ((some (l0.take (a1 : Int).toNat : List (S29))).bind fun y275 => (if y272.length + y275.length < 5864062014805 then ((some (y272 ++ y275 : List (S29))).bind fun y279 => (if y279.length + l3.length < 5864062014805 then ((some (y279 ++ l3 : List (S29))).bind fun y282 => (if 0 ≤ (wrap64 (a1 + a2)) then (if (wrap64 (a1 + a2)) ≤ (l0.length : Int) then ((some (l0.drop ((wrap64 (a1 + a2)) : Int).toNat : List (S29))).bind fun y285 => (if y282.length + y285.length < 5864062014805 then (some (y282 ++ y285)) else (none))) else (none)) else (none))) else (none))) else (none))) else (none)) else (none))) else (none)) else (none)) = some r := by first | (rw [hji5] at H; exact H) | (simp only [hji5] at H ⊢; exact H)
  have hji5w : (IntKind.i64.wrap ((wrap64 ((l0.length : Int) - a2)) + (l3.length : Int))) = ji5 := (i64_w _).trans hji5
  by_cases c6 : 0 ≤ (ji5)
  · rw [if_pos c6] at H
    have c6b0 := eq_true c6
    have c6b1 : decide (0 ≤ (ji5)) = true := decide_eq_true c6
    clear c6
    by_cases c7 : (ji5 : Int).toNat ≤ 11728124029610
    · rw [if_pos c7] at H
      have c7b0 := eq_true c7
      have c7b1 : decide ((ji5 : Int).toNat ≤ 11728124029610) = true := decide_eq_true c7
      clear c7
      obtain ⟨y272, hy272⟩ : ∃ y_ : List (S29), y_ = (([] : List (S29))) := ⟨_, rfl⟩
      replace H : (if 0 ≤ a1 then (if a1 ≤ (l0.length : Int) then ((some (l0.take (a1 : Int).toNat : List (S29))).bind fun y275 => (if y272.length + y275.length < 5864062014805 then ((some (y272 ++ y275 : List (S29))).bind fun y279 => (if y279.length + l3.length < 5864062014805 then ((some (y279 ++ l3 : List (S29))).bind fun y282 => (if 0 ≤ (wrap64 (a1 + a2)) then (if (wrap64 (a1 + a2)) ≤ (l0.length : Int) then ((some (l0.drop ((wrap64 (a1 + a2)) : Int).toNat : List (S29))).bind fun y285 => (if y282.length + y285.length < 5864062014805 then (some (y282 ++ y285)) else (none))) else (none)) else (none))) else (none))) else (none))) else (none)) else (none)) = some r := by first | (rw [hy272]; with_reducible exact H) | (have H2_ := (Option.bind_some _ _).symm.trans H; rw [hy272]; with_reducible exact H2_) | (have H2_ := (Option.bind_some _ _).symm.trans H; with_reducible exact H2_) | with_reducible exact H | (rw [hy272]; exact H) | exact H
      have Ny272 := Aside0.mk hy272
      clear hy272
      by_cases c8 : 0 ≤ a1
      · rw [if_pos c8] at H
        have c8b0 := eq_true c8
        have c8b1 : decide (0 ≤ a1) = true := decide_eq_true c8
        clear c8
        by_cases c9 : a1 ≤ (l0.length : Int)
        · rw [if_pos c9] at H
          have c9b0 := eq_true c9
          have c9b1 : decide (a1 ≤ (l0.length : Int)) = true := decide_eq_true c9
          clear c9
          obtain ⟨y275, hy275⟩ : ∃ y_ : List (S29), y_ = (l0.take (a1 : Int).toNat) := ⟨_, rfl⟩
          replace H : (if y272.length + y275.length < 5864062014805 then ((some (y272 ++ y275 : List (S29))).bind fun y279 => (if y279.length + l3.length < 5864062014805 then ((some (y279 ++ l3 : List (S29))).bind fun y282 => (if 0 ≤ (wrap64 (a1 + a2)) then (if (wrap64 (a1 + a2)) ≤ (l0.length : Int) then ((some (l0.drop ((wrap64 (a1 + a2)) : Int).toNat : List (S29))).bind fun y285 => (if y282.length + y285.length < 5864062014805 then (some (y282 ++ y285)) else (none))) else (none)) else (none))) else (none))) else (none)) = some r := by first | (rw [hy275]; with_reducible exact H) | (have H2_ := (Option.bind_some _ _).symm.trans H; rw [hy275]; with_reducible exact H2_) | (have H2_ := (Option.bind_some _ _).symm.trans H; with_reducible exact H2_) | with_reducible exact H | (rw [hy275]; exact H) | exact H
          have Ny275 := Aside0.mk hy275
          clear hy275
          by_cases c10 : y272.length + y275.length < 5864062014805
          · rw [if_pos c10] at H
            have LMc10 := Aside0.mk c10
            clear c10
            obtain ⟨y279, hy279⟩ : ∃ y_ : List (S29), y_ = (y272 ++ y275) := ⟨_, rfl⟩
            replace H : (if y279.length + l3.length < 5864062014805 then ((some (y279 ++ l3 : List (S29))).bind fun y282 => (if 0 ≤ (wrap64 (a1 + a2)) then (if (wrap64 (a1 + a2)) ≤ (l0.length : Int) then ((some (l0.drop ((wrap64 (a1 + a2)) : Int).toNat : List (S29))).bind fun y285 => (if y282.length + y285.length < 5864062014805 then (some (y282 ++ y285)) else (none))) else (none)) else (none))) else (none)) = some r := by first | (rw [hy279]; with_reducible exact H) | (have H2_ := (Option.bind_some _ _).symm.trans H; rw [hy279]; with_reducible exact H2_) | (have H2_ := (Option.bind_some _ _).symm.trans H; with_reducible exact H2_) | with_reducible exact H | (rw [hy279]; exact H) | exact H
            have Ny279 := Aside0.mk hy279
            clear hy279
            by_cases c11 : y279.length + l3.length < 5864062014805
            · rw [if_pos c11] at H
              have LMc11 := Aside0.mk c11
              clear c11
              obtain ⟨y282, hy282⟩ : ∃ y_ : List (S29), y_ = (y279 ++ l3) := ⟨_, rfl⟩
              replace H : (if 0 ≤ (wrap64 (a1 + a2)) then (if (wrap64 (a1 + a2)) ≤ (l0.length : Int) then ((some (l0.drop ((wrap64 (a1 + a2)) : Int).toNat : List (S29))).bind fun y285 => (if y282.length + y285.length < 5864062014805 then (some (y282 ++ y285)) else (none))) else (none)) else (none)) = some r := by first | (rw [hy282]; with_reducible exact H) | (have H2_ := (Option.bind_some _ _).symm.trans H; rw [hy282]; with_reducible exact H2_) | (have H2_ := (Option.bind_some _ _).symm.trans H; with_reducible exact H2_) | with_reducible exact H | (rw [hy282]; exact H) | exact H
              have Ny282 := Aside0.mk hy282
              clear hy282
              obtain ⟨ji12, hji12⟩ : ∃ j_ : Int, (wrap64 (a1 + a2)) = j_ := ⟨_, rfl⟩
              replace H : (if 0 ≤ (ji12) then (if (ji12) ≤ (l0.length : Int) then ((some (l0.drop ((ji12) : Int).toNat : List (S29))).bind fun y285 => (if y282.length + y285.length < 5864062014805 then (some (y282 ++ y285)) else (none))) else (none)) else (none)) = some r := by first | (rw [hji12] at H; exact H) | (simp only [hji12] at H ⊢; exact H)
              have hji12w : (IntKind.i64.wrap (a1 + a2)) = ji12 := (i64_w _).trans hji12
              by_cases c13 : 0 ≤ (ji12)
              · rw [if_pos c13] at H
                have c13b0 := eq_true c13
                have c13b1 : decide (0 ≤ (ji12)) = true := decide_eq_true c13
                clear c13
                by_cases c14 : (ji12) ≤ (l0.length : Int)
                · rw [if_pos c14] at H
                  have c14b0 := eq_true c14
                  have c14b1 : decide ((ji12) ≤ (l0.length : Int)) = true := decide_eq_true c14
                  clear c14
                  obtain ⟨y285, hy285⟩ : ∃ y_ : List (S29), y_ = (l0.drop ((ji12) : Int).toNat) := ⟨_, rfl⟩
                  replace H : (if y282.length + y285.length < 5864062014805 then (some (y282 ++ y285)) else (none)) = some r := by first | (rw [hy285]; with_reducible exact H) | (have H2_ := (Option.bind_some _ _).symm.trans H; rw [hy285]; with_reducible exact H2_) | (have H2_ := (Option.bind_some _ _).symm.trans H; with_reducible exact H2_) | with_reducible exact H | (rw [hy285]; exact H) | exact H
                  have Ny285 := Aside0.mk hy285
                  clear hy285
                  by_cases c15 : y282.length + y285.length < 5864062014805
                  · rw [if_pos c15] at H
                    have LMc15 := Aside0.mk c15
                    clear c15
                    obtain ⟨y289, hy289⟩ : ∃ y_ : List (S29), y_ = (y282 ++ y285) := ⟨_, rfl⟩
                    replace H : (some y289) = some r := by first | (rw [hy289]; with_reducible exact H) | (have H2_ := (Option.bind_some _ _).symm.trans H; rw [hy289]; with_reducible exact H2_) | (have H2_ := (Option.bind_some _ _).symm.trans H; with_reducible exact H2_) | with_reducible exact H | (rw [hy289]; exact H) | exact H
                    have Ny289 := Aside0.mk hy289
                    clear hy289
                    obtain rfl := Option.some.inj H
                    go_enter Try.func137, Try.ntmps137
                    go_wp2_with (first | ((with_reducible refine gate_dst (N := 17) rfl ?_); refine Kd.R_makec k29 _ 29 rfl (N := 17) rfl 23 _ _ rfl ji5 rfl (by first | rfl | (simp only [hji5]; rfl)) Try.underlying23 (.agg #[(.string ⟨#[]⟩), (.int .i64 0)]) 24 info29 rfl (by decide) (by omega) z29 (ok := fun _ => True) (okp := fun _ => True) (k29_mkM _ _ _ z29 ) (fun _ hk => hk) trivial (of_decide_eq_true (by first | (with_reducible assumption) | assumption)) (Nat.le_trans (Nat.mul_le_mul_right _ (of_decide_eq_true (by first | (with_reducible assumption) | assumption) : ji5.toNat ≤ 11728124029610)) (by omega)) (Below.refl _ _) (Nat.le_refl _) ?_; intro v273 w16 ho17 hb hg_ hnew_; clear hg_ hnew_; (first | rw [← Ny272.out] at ho17 | (simp only [Int.reduceToNat] at ho17; rw [← Ny272.out] at ho17)); have n0_ := Aside0.mk (Kd.R_lower ho17 (below_size (bp HB.out))); have n1_ := an0 HB hb; clear HB; have HO274 := n0_; have HB := n1_; clear n0_ n1_; clear hb ho17; have q18 : (a1 : Int) ≤ ((l0.length : Int) : Int) := of_decide_eq_true (by first | (with_reducible assumption) | assumption); obtain ⟨i018, hi018, _, hsz18, _⟩ := info_parts info29; have hroom18 : l0.length ≤ c0 := HC0.out; have hC18 : Kd.C k29 _ A0 l0.length l0 := HR0.out; have hcut18 := cut_to (P := Try.prog) 23 29 .i64 Try.underlying23 hi018 A0 l0.length c0 a1 (of_decide_eq_true (by first | (with_reducible assumption) | assumption)) q18 hroom18; have hr18 := Kd.C_take (m := (a1 : Int).toNat) hC18 (by omega); have hy18 : y275.length = (a1 : Int).toNat := (by rw [Ny275.out, List.length_take]; omega); rw [← Ny275.out] at hr18; rw [← hy18] at hcut18; have HR278 := Aside0.mk hr18; have HC278 := Aside0.mk (show y275.length ≤ c0 from by omega); clear hr18 hC18 hroom18 hi018 hsz18; have KY18 := Aside0.mk hy18; clear hy18; replace q18 := eq_true q18) | ((with_reducible refine gate_builtin (b := .append) (xs := #[.tmp 18, .tmp 21]) rfl ?_); at_builtin; refine Kd.R_append_rows k29 (w0 := w) w.heap.size rfl (.tmp 18) (.tmp 21) 23 29 (.agg #[(.string ⟨#[]⟩), (.int .i64 0)]) 24 rfl Try.underlying23 info29 rfl (by decide) (by omega) v273 y272 y275 _ _ _ (fun _ => True) (fun _ => False) rfl rfl ?aO ?aR (fun _ _ h => h) (fun _ h => h.elim) ?aF ?aB ?aS ?aL ?_; (case aR => exact cc (Kd.C_below HR278.out HB.out)); (case aB => exact (bp HB.out)); (case aF => exact (fun _ _ => trivial)); (case aO => exact (kr HO274.out)); (case aS => exact (below_size (bp HB.out))); (case aL => have := LMc10.out; omega); intro v280 w19 ho hb hg hat; rw [← Ny279.out] at ho; have n0_ := Aside0.mk (hb); have n1_ := Aside0.mk (ho); clear HB; clear HO274; have HB := n0_; have HO281 := n1_; clear n0_ n1_; clear ho hb hg hat) | ((with_reducible refine gate_builtin (b := .append) (xs := #[.tmp 23, .tmp 24]) rfl ?_); at_builtin; refine Kd.R_append_rows k29 (w0 := w) w.heap.size rfl (.tmp 23) (.tmp 24) 23 29 (.agg #[(.string ⟨#[]⟩), (.int .i64 0)]) 24 rfl Try.underlying23 info29 rfl (by decide) (by omega) v280 y279 l3 _ _ _ (fun _ => True) (fun _ => False) rfl rfl ?aO ?aR (fun _ _ h => h) (fun _ h => h.elim) ?aF ?aB ?aS ?aL ?_; (case aR => exact cc (Kd.C_below HR3.out HB.out)); (case aB => exact (bp HB.out)); (case aF => exact (fun _ _ => trivial)); (case aO => exact (kr HO281.out)); (case aS => exact (below_size (bp HB.out))); (case aL => have := LMc11.out; omega); intro v283 w20 ho hb hg hat; rw [← Ny282.out] at ho; have n0_ := Aside0.mk (hb); have n1_ := Aside0.mk (ho); clear HB; clear HO281; have HB := n0_; have HO284 := n1_; clear n0_ n1_; clear ho hb hg hat; have q21 : ((ji12) : Int) ≤ ((l0.length : Int) : Int) := of_decide_eq_true (by first | (with_reducible assumption) | assumption); obtain ⟨i021, hi021, _, hsz21, _⟩ := info_parts info29; have hroom21 : l0.length ≤ c0 := HC0.out; have hC21 : Kd.C k29 _ A0 l0.length l0 := HR0.out; have q021 : (0 : Int) ≤ ((ji12) : Int) := of_decide_eq_true (by first | (with_reducible assumption) | assumption); have hcut21 := cut_from (P := Try.prog) 23 29 .i64 Try.underlying23 hi021 2 hsz21 A0 l0.length c0 (ji12) q021 q21; have hr21 := Kd.C_drop (m := ((ji12) : Int).toNat) (c := c0) hC21 (by omega) hroom21; obtain ⟨A21, hA21⟩ : ∃ A_, A_ = (if c0 = ((ji12) : Int).toNat then A0 else (A0 : Option Addr).map (·.add (((ji12) : Int).toNat * 2))) := ⟨_, rfl⟩; obtain ⟨c21, hc21⟩ : ∃ c_, c_ = c0 - ((ji12) : Int).toNat := ⟨_, rfl⟩; have hy21 : y285.length = l0.length - ((ji12) : Int).toNat := (by rw [Ny285.out, List.length_drop] <;> omega); rw [show (l0).drop ((ji12) : Int).toNat = y285 from Ny285.out.symm] at hr21; replace hr21 : Kd.C k29 _ A21 y285.length y285 := (by rw [hA21]; exact hr21); rw [← hy21, ← hA21, ← hc21] at hcut21; have HR288 := Aside0.mk hr21; have HC288 := Aside0.mk (show y285.length ≤ c21 from by rw [hy21, hc21]; exact Nat.sub_le_sub_right hroom21 _); clear hr21 hC21 hroom21 hi021 hsz21 hc21; have KY21 := Aside0.mk hy21; have KA21 := Aside0.mk hA21; clear hy21 hA21; replace q21 := eq_true q21) | ((with_reducible refine gate_builtin (b := .append) (xs := #[.tmp 26, .tmp 31]) rfl ?_); at_builtin; refine Kd.R_append_rows k29 (w0 := w) w.heap.size rfl (.tmp 26) (.tmp 31) 23 29 (.agg #[(.string ⟨#[]⟩), (.int .i64 0)]) 24 rfl Try.underlying23 info29 rfl (by decide) (by omega) v283 y282 y285 _ _ _ (fun _ => True) (fun _ => False) rfl rfl ?aO ?aR (fun _ _ h => h) (fun _ h => h.elim) ?aF ?aB ?aS ?aL ?_; (case aR => exact cc (Kd.C_below HR288.out HB.out)); (case aB => exact (bp HB.out)); (case aF => exact (fun _ _ => trivial)); (case aO => exact (kr HO284.out)); (case aS => exact (below_size (bp HB.out))); (case aL => have := LMc15.out; omega); intro v290 w22 ho hb hg hat; rw [← Ny289.out] at ho; have n0_ := Aside0.mk (hb); have n1_ := Aside0.mk (ho); clear HB; clear HO284; have HB := n0_; have HO291 := n1_; clear n0_ n1_; clear ho hb hg hat))
                    go_ret
                    exact ⟨_, by first | rfl | (simp [errW_none, errW_some] <;> rfl) | (simp only [← hji5, ← hji12]; first | rfl | (simp [errW_none, errW_some] <;> rfl)) | (simp [*, errW_none, errW_some] <;> rfl) | (simp only [IntKind.wrap_u8, show ∀ n_ : Int, wrap64 (n_ % 256) = n_ % 256 from fun n_ => by unfold wrap64; omega]; rfl), by (with_reducible repeat (first | apply Kd.R_alloc | apply Kd.R_drewN | apply Kd.R_drew)); exact HO291.out, bp HB.out⟩
                  · rw [if_neg c15] at H
                    exact absurd H (by simp)
                · rw [if_neg c14] at H
                  exact absurd H (by simp)
              · rw [if_neg c13] at H
                exact absurd H (by simp)
            · rw [if_neg c11] at H
              exact absurd H (by simp)
          · rw [if_neg c10] at H
            exact absurd H (by simp)
        · rw [if_neg c9] at H
          exact absurd H (by simp)
      · rw [if_neg c8] at H
        exact absurd H (by simp)
    · rw [if_neg c7] at H
      exact absurd H (by simp)
  · rw [if_neg c6] at H
    exact absurd H (by simp)

/-! ### impl_PairDrop: function 98 -/
def impl_PairDrop.f (k : Nat) (l0 : List (S29)) (a1 : ByteArray) : Option ((List (S29)) × Bool) := (impl_PairsValid.f k l0).bind fun t292 => (if t292 = true then ((impl_pairPlace.f k l0 a1).bind fun bt293 => (if bt293.2 = true then ((impl_Pair_137.f l0 bt293.1 1 ([] : List (S29))).bind fun t295 => (some (t295, true))) else ((impl_Pair_96.f l0).bind fun t298 => (some (t298, false))))) else (some (([] : List (S29)), false)))
theorem impl_PairDrop.mono : ∀ a0 a1 k, LeO (impl_PairDrop.f k a0 a1) (impl_PairDrop.f (k + 1) a0 a1) := by
  intro a0 a1 k
  unfold impl_PairDrop.f
  repeat' first
      | (with_reducible exact impl_PairsValid.mono _ _)
      | (with_reducible exact impl_pairPlace.mono _ _ _)
      | (with_reducible exact LeO.refl _)
      | (with_reducible exact LeO.none _)
      | (with_reducible refine LeO.ite ?_ ?_)
      | (with_reducible refine LeO.bind ?_ (fun _ => ?_))
      | exact impl_PairsValid.mono _ _
      | exact impl_pairPlace.mono _ _ _
      | exact LeO.none _
      | refine LeO.ite ?_ ?_
      | refine LeO.bind ?_ (fun _ => ?_)
set_option maxHeartbeats 8000000 in
set_option maxRecDepth 100000 in
theorem impl_PairDrop.calls (k : Nat) (A0 : Option Addr) (c0 : Nat) (l0 : List (S29)) (a1 : ByteArray) (r1 : List (S29)) (r2 : Bool) (w : World) (hr0 : Kd.C k29 w A0 l0.length l0) (hc0 : l0.length ≤ c0) (h : impl_PairDrop.f k l0 a1 = some (r1, r2)) :
    Calls Try.prog 98 #[.slice A0 l0.length c0, .string a1] w fun e w' => ∃ v0_ : Value, e = .returned (.tuple #[v0_, .bool r2]) ∧ Kd.R k29 29 w' w.heap.size (fun _ => True) v0_ r1 ∧ Below w.heap.size w w' := by
  have HR0 := Aside0.mk hr0
  have HC0 := Aside0.mk hc0
  clear hr0 hc0
  have HB := Aside0.mk (Below.refl w.heap.size w)
  have H : ((impl_PairsValid.f k l0).bind fun t292 => (if t292 = true then ((impl_pairPlace.f k l0 a1).bind fun bt293 => (if bt293.2 = true then ((impl_Pair_137.f l0 bt293.1 1 ([] : List (S29))).bind fun t295 => (some (t295, true))) else ((impl_Pair_96.f l0).bind fun t298 => (some (t298, false))))) else (some (([] : List (S29)), false)))) = some (r1, r2) := h
  clear h
  replace H := Option.bind_eq_some_iff.mp H
  obtain ⟨t292, A30, H⟩ := H
  replace H : (if t292 = true then ((impl_pairPlace.f k l0 a1).bind fun bt293 => (if bt293.2 = true then ((impl_Pair_137.f l0 bt293.1 1 ([] : List (S29))).bind fun t295 => (some (t295, true))) else ((impl_Pair_96.f l0).bind fun t298 => (some (t298, false))))) else (some (([] : List (S29)), false))) = some (r1, r2) := H
  have A3 := Aside0.mk A30
  clear A30
  by_cases c4 : t292 = true
  · subst c4
    have H1 : ((impl_pairPlace.f k l0 a1).bind fun bt293 => (if bt293.2 = true then ((impl_Pair_137.f l0 bt293.1 1 ([] : List (S29))).bind fun t295 => (some (t295, true))) else ((impl_Pair_96.f l0).bind fun t298 => (some (t298, false))))) = some (r1, r2) := by rw [if_pos rfl] at H; exact H
    clear H
    have H := H1
    clear H1
    replace H := Option.bind_eq_some_iff.mp H
    obtain ⟨⟨t293, t294⟩, A50, H⟩ := H
    replace H : (if t294 = true then ((impl_Pair_137.f l0 t293 1 ([] : List (S29))).bind fun t295 => (some (t295, true))) else ((impl_Pair_96.f l0).bind fun t298 => (some (t298, false)))) = some (r1, r2) := H
    have A5 := Aside0.mk A50
    clear A50
    by_cases c6 : t294 = true
    · subst c6
      have H1 : ((impl_Pair_137.f l0 t293 1 ([] : List (S29))).bind fun t295 => (some (t295, true))) = some (r1, r2) := by rw [if_pos rfl] at H; exact H
      clear H
      have H := H1
      clear H1
      replace H := Option.bind_eq_some_iff.mp H
      obtain ⟨t295, A70, H⟩ := H
      replace H : (some (t295, true)) = some (r1, r2) := H
      have A7 := Aside0.mk A70
      clear A70
      simp only [Option.some.injEq, Prod.mk.injEq] at H
      obtain ⟨rfl, rfl⟩ := H
      go_enter Try.func98, Try.ntmps98
      go_wp2_with (first | ((with_reducible refine gate_callee (f := 17) rfl ?_); refine gsl (some 9) rfl Try.func17 #[.slice A0 l0.length c0] rfl ?_; (with_reducible refine (impl_PairsValid.calls k _ _ l0 true _ ?side1 ?side2 A3.out).mono ?_); (case side1 => exact cc HR0.out); (case side2 => exact HC0.out); rintro e w8 ⟨rfl, hb⟩; refine ⟨_, rfl, ?_⟩; replace HB := an0 HB hb; (try clear hb); (try clear hb2); (try clear hk); (try clear hi)) | ((with_reducible refine gate_callee (f := 115) rfl ?_); refine gsl (some 14) rfl Try.func115 #[.slice A0 l0.length c0, .string a1] rfl ?_; (with_reducible refine (impl_pairPlace.calls k _ _ l0 a1 t293 true _ ?side1 ?side2 A5.out).mono ?_); (case side1 => exact cc (Kd.C_below HR0.out HB.out)); (case side2 => exact HC0.out); rintro e w9 ⟨rfl, hb⟩; refine ⟨_, rfl, ?_⟩; replace HB := an0 HB hb; (try clear hb); (try clear hb2); (try clear hk); (try clear hi)) | ((with_reducible refine gate_callee (f := 137) rfl ?_); refine gsl (some 23) rfl Try.func137 #[.slice A0 l0.length c0, .int .i64 t293, .int .i64 1, .slice none 0 0] rfl ?_; (refine (impl_Pair_137.calls _ _ l0 t293 1 _ _ ([] : List (S29)) t295 _ ?side1 ?side2 ?side3 ?side4 A7.out).mono ?_); (case side1 => exact cc (Kd.C_below HR0.out HB.out)); (case side2 => exact HC0.out); (case side3 => exact Kd.C_nil _ _); (case side4 => exact Nat.le_refl _); rintro e w10 ⟨v296, rfl, ho0, hb⟩; refine ⟨_, rfl, ?_⟩; have n0_ := Aside0.mk (Kd.R_lower ho0 (below_size (bp HB.out))); have n1_ := an0 HB hb; clear HB; have HO297 := n0_; have HB := n1_; clear n0_ n1_; (try clear hb); (try clear hb2); (try clear hk); (try clear hi); (try clear ho0)))
      go_ret2
      exact ⟨_, fe, by (with_reducible repeat (first | apply Kd.R_alloc | apply Kd.R_drewN | apply Kd.R_drew)); exact HO297.out, bp HB.out⟩
    · replace c6 := Bool.eq_false_iff.mpr c6
      subst c6
      have H1 : ((impl_Pair_96.f l0).bind fun t298 => (some (t298, false))) = some (r1, r2) := by rw [if_neg (show ¬ (false = true) by decide)] at H; exact H
      clear H
      have H := H1
      clear H1
      replace H := Option.bind_eq_some_iff.mp H
      obtain ⟨t298, A110, H⟩ := H
      replace H : (some (t298, false)) = some (r1, r2) := H
      have A11 := Aside0.mk A110
      clear A110
      simp only [Option.some.injEq, Prod.mk.injEq] at H
      obtain ⟨rfl, rfl⟩ := H
      go_enter Try.func98, Try.ntmps98
      go_wp2_with (first | ((with_reducible refine gate_callee (f := 17) rfl ?_); refine gsl (some 9) rfl Try.func17 #[.slice A0 l0.length c0] rfl ?_; (with_reducible refine (impl_PairsValid.calls k _ _ l0 true _ ?side1 ?side2 A3.out).mono ?_); (case side1 => exact cc HR0.out); (case side2 => exact HC0.out); rintro e w12 ⟨rfl, hb⟩; refine ⟨_, rfl, ?_⟩; replace HB := an0 HB hb; (try clear hb); (try clear hb2); (try clear hk); (try clear hi)) | ((with_reducible refine gate_callee (f := 115) rfl ?_); refine gsl (some 14) rfl Try.func115 #[.slice A0 l0.length c0, .string a1] rfl ?_; (with_reducible refine (impl_pairPlace.calls k _ _ l0 a1 t293 false _ ?side1 ?side2 A5.out).mono ?_); (case side1 => exact cc (Kd.C_below HR0.out HB.out)); (case side2 => exact HC0.out); rintro e w13 ⟨rfl, hb⟩; refine ⟨_, rfl, ?_⟩; replace HB := an0 HB hb; (try clear hb); (try clear hb2); (try clear hk); (try clear hi)) | ((with_reducible refine gate_callee (f := 96) rfl ?_); refine gsl (some 20) rfl Try.func96 #[.slice A0 l0.length c0] rfl ?_; (with_reducible refine (impl_Pair_96.calls _ _ l0 t298 _ ?side1 ?side2 A11.out).mono ?_); (case side1 => exact cc (Kd.C_below HR0.out HB.out)); (case side2 => exact HC0.out); rintro e w14 ⟨v299, rfl, ho0, hb⟩; refine ⟨_, rfl, ?_⟩; have n0_ := Aside0.mk (Kd.R_lower ho0 (below_size (bp HB.out))); have n1_ := an0 HB hb; clear HB; have HO300 := n0_; have HB := n1_; clear n0_ n1_; (try clear hb); (try clear hb2); (try clear hk); (try clear hi); (try clear ho0)))
      go_ret2
      exact ⟨_, fe, by (with_reducible repeat (first | apply Kd.R_alloc | apply Kd.R_drewN | apply Kd.R_drew)); exact HO300.out, bp HB.out⟩
  · replace c4 := Bool.eq_false_iff.mpr c4
    subst c4
    have H1 : (some (([] : List (S29)), false)) = some (r1, r2) := by rw [if_neg (show ¬ (false = true) by decide)] at H; exact H
    clear H
    have H := H1
    clear H1
    simp only [Option.some.injEq, Prod.mk.injEq] at H
    obtain ⟨rfl, rfl⟩ := H
    go_enter Try.func98, Try.ntmps98
    go_wp2_with (first | ((with_reducible refine gate_callee (f := 17) rfl ?_); refine gsl (some 9) rfl Try.func17 #[.slice A0 l0.length c0] rfl ?_; (with_reducible refine (impl_PairsValid.calls k _ _ l0 false _ ?side1 ?side2 A3.out).mono ?_); (case side1 => exact cc HR0.out); (case side2 => exact HC0.out); rintro e w15 ⟨rfl, hb⟩; refine ⟨_, rfl, ?_⟩; replace HB := an0 HB hb; (try clear hb); (try clear hb2); (try clear hk); (try clear hi)))
    go_ret2
    exact ⟨_, fe, by first | exact Kd.R_nil _ _ _ _ _ | exact Kd.N_nil _ _ _ _ _ | exact Kd.V_nil _ _ _ _ _ | exact Kd.Q_nil _ _ _ _ _ | exact Kd.S_nil _ _ _ _ _, bp HB.out⟩

/-! ### impl_PairPut: function 99 -/
def impl_PairPut.j0 : Nat → List (S29) → ByteArray → Int → Bool → Option ((List (S29)) × Bool)
  | 0, _, _, _, _ => none
  | k + 1, x0, x1, x2, x22 => if x22 = true then (some (([] : List (S29)), false)) else ((impl_pairPlace.f k x0 x1).bind fun bt304 => (if bt304.2 = true then ((impl_Pair_137.f x0 bt304.1 1 (([(⟨x1, x2⟩ : S29)] : List (S29)))).bind fun t309 => (some (t309, true))) else (if (x0.length : Int) ≥ 48 then ((impl_Pair_96.f x0).bind fun t312 => (some (t312, false))) else ((impl_Pair_137.f x0 bt304.1 0 (([(⟨x1, x2⟩ : S29)] : List (S29)))).bind fun t318 => (some (t318, true))))))
def impl_PairPut.f (k : Nat) (l0 : List (S29)) (a1 : ByteArray) (a2 : Int) : Option ((List (S29)) × Bool) := (impl_PairsValid.f k l0).bind fun t301 => (if t301 = true then ((impl_KeyValid.f k a1).bind fun t302 => (if t302 = true then ((impl_valueValid.f a2).bind fun t303 => (impl_PairPut.j0 k l0 a1 a2 (!t303))) else (impl_PairPut.j0 k l0 a1 a2 true))) else (impl_PairPut.j0 k l0 a1 a2 true))
theorem impl_PairPut.mono_l : ∀ k, (∀ y0 y1 y2 y3, LeO (impl_PairPut.j0 k y0 y1 y2 y3) (impl_PairPut.j0 (k + 1) y0 y1 y2 y3))
  | 0 => fun _ _ _ _ r h => by simp [impl_PairPut.j0] at h
  | k + 1 => by
    have ih0 := impl_PairPut.mono_l k
    · intro y0 y1 y2 y3
      unfold impl_PairPut.j0
      repeat' first
      | (with_reducible exact ih0 _ _ _ _)
      | (with_reducible exact impl_KeyValid.mono _ _)
      | (with_reducible exact impl_PairsValid.mono _ _)
      | (with_reducible exact impl_pairPlace.mono _ _ _)
      | (with_reducible exact LeO.refl _)
      | (with_reducible exact LeO.none _)
      | (with_reducible refine LeO.ite ?_ ?_)
      | (with_reducible refine LeO.bind ?_ (fun _ => ?_))
      | exact ih0 _ _ _ _
      | exact impl_KeyValid.mono _ _
      | exact impl_PairsValid.mono _ _
      | exact impl_pairPlace.mono _ _ _
      | exact LeO.none _
      | refine LeO.ite ?_ ?_
      | refine LeO.bind ?_ (fun _ => ?_)
theorem impl_PairPut.mono : ∀ a0 a1 a2 k, LeO (impl_PairPut.f k a0 a1 a2) (impl_PairPut.f (k + 1) a0 a1 a2) := by
  intro a0 a1 a2 k
  have ih0 := impl_PairPut.mono_l k
  unfold impl_PairPut.f
  repeat' first
      | (with_reducible exact ih0 _ _ _ _)
      | (with_reducible exact impl_KeyValid.mono _ _)
      | (with_reducible exact impl_PairsValid.mono _ _)
      | (with_reducible exact impl_pairPlace.mono _ _ _)
      | (with_reducible exact LeO.refl _)
      | (with_reducible exact LeO.none _)
      | (with_reducible refine LeO.ite ?_ ?_)
      | (with_reducible refine LeO.bind ?_ (fun _ => ?_))
      | exact ih0 _ _ _ _
      | exact impl_KeyValid.mono _ _
      | exact impl_PairsValid.mono _ _
      | exact impl_pairPlace.mono _ _ _
      | exact LeO.none _
      | refine LeO.ite ?_ ?_
      | refine LeO.bind ?_ (fun _ => ?_)
theorem impl_PairPut.s0 {P0 Q : Prop} (B0 : P0) (h : P0 → Q := by (intro b0_; repeat (first | exact (Kd.R_reads' b0_).2.2 | (with_reducible refine Kd.C_alloc ?_ _) | (with_reducible refine Kd.C_drewN ?_ _) | (with_reducible refine Kd.C_drew ?_)))) : Q := h B0
set_option maxHeartbeats 8000000 in
set_option maxRecDepth 100000 in
theorem impl_PairPut.calls (k : Nat) (A0 : Option Addr) (c0 : Nat) (l0 : List (S29)) (a1 : ByteArray) (a2 : Int) (r1 : List (S29)) (r2 : Bool) (w : World) (hr0 : Kd.C k29 w A0 l0.length l0) (hc0 : l0.length ≤ c0) (h : impl_PairPut.f k l0 a1 a2 = some (r1, r2)) :
    Calls Try.prog 99 #[.slice A0 l0.length c0, .string a1, .int .i64 a2] w fun e w' => ∃ v0_ : Value, e = .returned (.tuple #[v0_, .bool r2]) ∧ Kd.R k29 29 w' w.heap.size (fun _ => True) v0_ r1 ∧ Below w.heap.size w w' := by
  have hu29 := Try.underlying29
  have HR0 := Aside0.mk hr0
  have HC0 := Aside0.mk hc0
  clear hr0 hc0
  have HB := Aside0.mk (Below.refl w.heap.size w)
  have H : ((impl_PairsValid.f k l0).bind fun t301 => (if t301 = true then ((impl_KeyValid.f k a1).bind fun t302 => (if t302 = true then ((impl_valueValid.f a2).bind fun t303 => (impl_PairPut.j0 k l0 a1 a2 (!t303))) else (impl_PairPut.j0 k l0 a1 a2 true))) else (impl_PairPut.j0 k l0 a1 a2 true))) = some (r1, r2) := h
  clear h
  have HC4 := Aside0.mk H
  clear H
  go_enter Try.func99, Try.ntmps99
  go_upto_region 1 with (fail)
  go_cut [22] (fun v22 wc => ∃ (kq : Nat) (x22_3 : Bool), v22 = .bool x22_3 ∧ Aside0 (impl_PairPut.j0 kq l0 a1 a2 x22_3 = some (r1, r2)) ∧ Aside0 (kq ≤ k) ∧ Aside0 (Below w.heap.size w wc))
  case first =>
    have H := HC4.out
    clear HC4
    replace H := Option.bind_eq_some_iff.mp H
    obtain ⟨t301, A50, H⟩ := H
    replace H : (if t301 = true then ((impl_KeyValid.f k a1).bind fun t302 => (if t302 = true then ((impl_valueValid.f a2).bind fun t303 => (impl_PairPut.j0 k l0 a1 a2 (!t303))) else (impl_PairPut.j0 k l0 a1 a2 true))) else (impl_PairPut.j0 k l0 a1 a2 true)) = some (r1, r2) := H
    have A5 := Aside0.mk A50
    clear A50
    by_cases c6 : t301 = true
    · subst c6
      have H1 : ((impl_KeyValid.f k a1).bind fun t302 => (if t302 = true then ((impl_valueValid.f a2).bind fun t303 => (impl_PairPut.j0 k l0 a1 a2 (!t303))) else (impl_PairPut.j0 k l0 a1 a2 true))) = some (r1, r2) := by rw [if_pos rfl] at H; exact H
      clear H
      have H := H1
      clear H1
      replace H := Option.bind_eq_some_iff.mp H
      obtain ⟨t302, A70, H⟩ := H
      replace H : (if t302 = true then ((impl_valueValid.f a2).bind fun t303 => (impl_PairPut.j0 k l0 a1 a2 (!t303))) else (impl_PairPut.j0 k l0 a1 a2 true)) = some (r1, r2) := H
      have A7 := Aside0.mk A70
      clear A70
      by_cases c8 : t302 = true
      · subst c8
        have H1 : ((impl_valueValid.f a2).bind fun t303 => (impl_PairPut.j0 k l0 a1 a2 (!t303))) = some (r1, r2) := by rw [if_pos rfl] at H; exact H
        clear H
        have H := H1
        clear H1
        replace H := Option.bind_eq_some_iff.mp H
        obtain ⟨t303, A90, H⟩ := H
        replace H : (impl_PairPut.j0 k l0 a1 a2 (!t303)) = some (r1, r2) := H
        have A9 := Aside0.mk A90
        clear A90
        have H' := Aside0.mk H
        clear H
        go_wp2_with (first | ((with_reducible refine gate_callee (f := 17) rfl ?_); refine gsl (some 11) rfl Try.func17 #[.slice A0 l0.length c0] rfl ?_; (with_reducible refine (impl_PairsValid.calls k _ _ l0 true _ ?side1 ?side2 A5.out).mono ?_); (case side1 => exact cc (Kd.C_below HR0.out HB.out)); (case side2 => exact HC0.out); rintro e w10 ⟨rfl, hb⟩; refine ⟨_, rfl, ?_⟩; replace HB := an0 HB hb; (try clear hb); (try clear hb2); (try clear hk); (try clear hi)) | (go_at_call 74; (with_reducible refine (impl_KeyValid.calls k a1 true _ A7.out).mono ?_); rintro e w' ⟨rfl, ⟨nd, rfl⟩⟩) | (go_at_call 75; (with_reducible refine (impl_valueValid.calls a2 t303 _ A9.out).mono ?_); rintro e w' ⟨rfl, ⟨nd, rfl⟩⟩))
        go_meet
        case rel => exact ⟨_, (!t303), (by first | rfl | (simp; done) | (simp [*]; done) | (simp [bne_nil_, beq_nil_]; done)), H', ⟨by first | omega | exact Nat.le_refl _⟩, ⟨bp HB.out⟩⟩
      · replace c8 := Bool.eq_false_iff.mpr c8
        subst c8
        have H1 : (impl_PairPut.j0 k l0 a1 a2 true) = some (r1, r2) := by rw [if_neg (show ¬ (false = true) by decide)] at H; exact H
        clear H
        have H := H1
        clear H1
        have H' := Aside0.mk H
        clear H
        go_wp2_with (first | ((with_reducible refine gate_callee (f := 17) rfl ?_); refine gsl (some 11) rfl Try.func17 #[.slice A0 l0.length c0] rfl ?_; (with_reducible refine (impl_PairsValid.calls k _ _ l0 true _ ?side1 ?side2 A5.out).mono ?_); (case side1 => exact cc (Kd.C_below HR0.out HB.out)); (case side2 => exact HC0.out); rintro e w11 ⟨rfl, hb⟩; refine ⟨_, rfl, ?_⟩; replace HB := an0 HB hb; (try clear hb); (try clear hb2); (try clear hk); (try clear hi)) | (go_at_call 74; (with_reducible refine (impl_KeyValid.calls k a1 false _ A7.out).mono ?_); rintro e w' ⟨rfl, ⟨nd, rfl⟩⟩))
        go_meet
        case rel => exact ⟨_, (true), (by first | rfl | (simp; done) | (simp [*]; done) | (simp [bne_nil_, beq_nil_]; done)), H', ⟨by first | omega | exact Nat.le_refl _⟩, ⟨bp HB.out⟩⟩
    · replace c6 := Bool.eq_false_iff.mpr c6
      subst c6
      have H1 : (impl_PairPut.j0 k l0 a1 a2 true) = some (r1, r2) := by rw [if_neg (show ¬ (false = true) by decide)] at H; exact H
      clear H
      have H := H1
      clear H1
      have H' := Aside0.mk H
      clear H
      go_wp2_with (first | ((with_reducible refine gate_callee (f := 17) rfl ?_); refine gsl (some 11) rfl Try.func17 #[.slice A0 l0.length c0] rfl ?_; (with_reducible refine (impl_PairsValid.calls k _ _ l0 false _ ?side1 ?side2 A5.out).mono ?_); (case side1 => exact cc (Kd.C_below HR0.out HB.out)); (case side2 => exact HC0.out); rintro e w12 ⟨rfl, hb⟩; refine ⟨_, rfl, ?_⟩; replace HB := an0 HB hb; (try clear hb); (try clear hb2); (try clear hk); (try clear hi)))
      go_meet
      case rel => exact ⟨_, (true), (by first | rfl | (simp; done) | (simp [*]; done) | (simp [bne_nil_, beq_nil_]; done)), H', ⟨by first | omega | exact Nat.le_refl _⟩, ⟨bp HB.out⟩⟩
  case rest =>
    clear HC4
    try clear c1
    try clear p2
    try clear c6
    try clear c8
    try clear c9
    obtain ⟨kq, x22_3, rfl, HA, HJ3, HB⟩ := hcut
    cases kq with
    | zero => exact absurd HA.out (by simp [impl_PairPut.j0])
    | succ kj3 =>
      have H := HA.out
      clear HA
      simp only [impl_PairPut.j0] at H
      by_cases c13 : x22_3 = true
      · subst c13
        have H1 : (some (([] : List (S29)), false)) = some (r1, r2) := by rw [if_pos rfl] at H; exact H
        clear H
        have H := H1
        clear H1
        simp only [Option.some.injEq, Prod.mk.injEq] at H
        obtain ⟨rfl, rfl⟩ := H
        go_wp2
        go_ret2
        exact ⟨_, fe, by first | exact Kd.R_nil _ _ _ _ _ | exact Kd.N_nil _ _ _ _ _ | exact Kd.V_nil _ _ _ _ _ | exact Kd.Q_nil _ _ _ _ _ | exact Kd.S_nil _ _ _ _ _, bp HB.out⟩
      · replace c13 := Bool.eq_false_iff.mpr c13
        subst c13
        have H1 : ((impl_pairPlace.f kj3 l0 a1).bind fun bt304 => (if bt304.2 = true then ((impl_Pair_137.f l0 bt304.1 1 (([(⟨a1, a2⟩ : S29)] : List (S29)))).bind fun t309 => (some (t309, true))) else (if (l0.length : Int) ≥ 48 then ((impl_Pair_96.f l0).bind fun t312 => (some (t312, false))) else ((impl_Pair_137.f l0 bt304.1 0 (([(⟨a1, a2⟩ : S29)] : List (S29)))).bind fun t318 => (some (t318, true)))))) = some (r1, r2) := by rw [if_neg (show ¬ (false = true) by decide)] at H; exact H
        clear H
        have H := H1
        clear H1
        replace H := Option.bind_eq_some_iff.mp H
        obtain ⟨⟨t304, t305⟩, A140, H⟩ := H
        replace H : (if t305 = true then ((impl_Pair_137.f l0 t304 1 (([(⟨a1, a2⟩ : S29)] : List (S29)))).bind fun t309 => (some (t309, true))) else (if (l0.length : Int) ≥ 48 then ((impl_Pair_96.f l0).bind fun t312 => (some (t312, false))) else ((impl_Pair_137.f l0 t304 0 (([(⟨a1, a2⟩ : S29)] : List (S29)))).bind fun t318 => (some (t318, true))))) = some (r1, r2) := H
        have A14 := Aside0.mk A140
        clear A140
        by_cases c15 : t305 = true
        · subst c15
          have H1 : ((impl_Pair_137.f l0 t304 1 (([(⟨a1, a2⟩ : S29)] : List (S29)))).bind fun t309 => (some (t309, true))) = some (r1, r2) := by rw [if_pos rfl] at H; exact H
          clear H
          have H := H1
          clear H1
          obtain ⟨y306, hy306⟩ : ∃ y_ : List (S29), y_ = (([(⟨a1, a2⟩ : S29)] : List (S29))) := ⟨_, rfl⟩
          replace H : ((impl_Pair_137.f l0 t304 1 y306).bind fun t309 => (some (t309, true))) = some (r1, r2) := by first | (rw [hy306]; with_reducible exact H) | (have H2_ := (Option.bind_some _ _).symm.trans H; rw [hy306]; with_reducible exact H2_) | (have H2_ := (Option.bind_some _ _).symm.trans H; with_reducible exact H2_) | with_reducible exact H | (rw [hy306]; exact H) | exact H
          have Ny306 := Aside0.mk hy306
          clear hy306
          replace H := Option.bind_eq_some_iff.mp H
          obtain ⟨t309, A160, H⟩ := H
          replace H : (some (t309, true)) = some (r1, r2) := H
          have A16 := Aside0.mk A160
          clear A160
          simp only [Option.some.injEq, Prod.mk.injEq] at H
          obtain ⟨rfl, rfl⟩ := H
          go_wp2_with (first | ((with_reducible refine gate_callee (f := 115) rfl ?_); refine gsl (some 26) rfl Try.func115 #[.slice A0 l0.length c0, .string a1] rfl ?_; (with_reducible refine (impl_pairPlace.calls kj3 _ _ l0 a1 t304 true _ ?side1 ?side2 A14.out).mono ?_); (case side1 => exact cc (Kd.C_below HR0.out HB.out)); (case side2 => exact HC0.out); rintro e w17 ⟨rfl, hb⟩; refine ⟨_, rfl, ?_⟩; replace HB := an0 HB hb; (try clear hb); (try clear hb2); (try clear hk); (try clear hi)) | ((with_reducible refine gate_dst (N := 35) rfl ?_); refine Kd.R_lit k29 _ 29 ?hg (N := 35) ?hd (xs := ([(⟨a1, a2⟩ : S29)] : List (S29))) (inner := [.string a1, .int .i64 a2]) (ok := fun _ => True) (okp := fun _ => True) ?hr ?hp (fun _ hk => hk) trivial (Below.refl _ _) (Nat.le_refl _) (by simp) ?_; (case hd => rfl); (case hg => rfl); (case hr => first | (go_simp; done) | (go_simp; rfl)); (case hp => exact (Reps.c2 (show Kd.M k29 _ _ _ (⟨a1, a2⟩ : S29) [.string a1, .int .i64 a2] from (k29_mkM _ _ _ (⟨a1, a2⟩ : S29) )) (Reps.none _ _))); intro v307 w18 ho19 hb hg_ hnew_; clear hg_ hnew_; (first | rw [← Ny306.out] at ho19 | (simp only [Int.reduceToNat] at ho19; rw [← Ny306.out] at ho19)); have n0_ := Aside0.mk (Kd.R_lower ho19 (below_size (bp HB.out))); have n1_ := an0 HB hb; clear HB; have HO308 := n0_; have HB := n1_; clear n0_ n1_; clear hb ho19; obtain ⟨Ao20, co20, eo20⟩ := Kd.R_slice HO308.out; subst eo20) | ((with_reducible refine gate_callee (f := 137) rfl ?_); refine gsl (some 36) rfl Try.func137 #[.slice A0 l0.length c0, .int .i64 t304, .int .i64 1, .slice Ao20 y306.length co20] rfl ?_; (with_reducible refine (impl_Pair_137.calls _ _ l0 t304 1 _ _ y306 t309 _ ?side1 ?side2 ?side3 ?side4 A16.out).mono ?_); (case side1 => exact cc (Kd.C_below HR0.out HB.out)); (case side2 => exact HC0.out); (case side3 => exact impl_PairPut.s0 HO308.out); (case side4 => exact (Kd.R_reads' HO308.out).2.1); rintro e w21 ⟨v310, rfl, ho0, hb⟩; refine ⟨_, rfl, ?_⟩; have n0_ := Aside0.mk (Kd.R_elder' (kr HO308.out) (Kd.R_base ho0) hb); have n1_ := Aside0.mk (Kd.R_lower (Kd.R_new' ho0 (Kd.R_lt (kr HO308.out))) (below_size (bp HB.out))); have n2_ := an0 HB hb; clear HO308; clear HB; have HO308 := n0_; have HO311 := n1_; have HB := n2_; clear n0_ n1_ n2_; (try clear hb); (try clear hb2); (try clear hk); (try clear hi); (try clear ho0)))
          go_ret2
          exact ⟨_, fe, by (with_reducible repeat (first | apply Kd.R_alloc | apply Kd.R_drewN | apply Kd.R_drew)); exact Kd.R_mono HO311.out (fun _ hk => trivial), bp HB.out⟩
        · replace c15 := Bool.eq_false_iff.mpr c15
          subst c15
          have H1 : (if (l0.length : Int) ≥ 48 then ((impl_Pair_96.f l0).bind fun t312 => (some (t312, false))) else ((impl_Pair_137.f l0 t304 0 (([(⟨a1, a2⟩ : S29)] : List (S29)))).bind fun t318 => (some (t318, true)))) = some (r1, r2) := by rw [if_neg (show ¬ (false = true) by decide)] at H; exact H
          clear H
          have H := H1
          clear H1
          by_cases c22 : (l0.length : Int) ≥ 48
          · rw [if_pos c22] at H
            have c22b0 : decide (48 ≤ (l0.length : Int)) = true := decide_eq_true c22
            have c22b1 : decide (48 ≤ l0.length) = true := decide_eq_true (by omega)
            clear c22
            replace H := Option.bind_eq_some_iff.mp H
            obtain ⟨t312, A230, H⟩ := H
            replace H : (some (t312, false)) = some (r1, r2) := H
            have A23 := Aside0.mk A230
            clear A230
            simp only [Option.some.injEq, Prod.mk.injEq] at H
            obtain ⟨rfl, rfl⟩ := H
            go_wp2_with (first | ((with_reducible refine gate_callee (f := 115) rfl ?_); refine gsl (some 26) rfl Try.func115 #[.slice A0 l0.length c0, .string a1] rfl ?_; (with_reducible refine (impl_pairPlace.calls kj3 _ _ l0 a1 t304 false _ ?side1 ?side2 A14.out).mono ?_); (case side1 => exact cc (Kd.C_below HR0.out HB.out)); (case side2 => exact HC0.out); rintro e w24 ⟨rfl, hb⟩; refine ⟨_, rfl, ?_⟩; replace HB := an0 HB hb; (try clear hb); (try clear hb2); (try clear hk); (try clear hi)) | ((with_reducible refine gate_callee (f := 96) rfl ?_); refine gsl (some 41) rfl Try.func96 #[.slice A0 l0.length c0] rfl ?_; (with_reducible refine (impl_Pair_96.calls _ _ l0 t312 _ ?side1 ?side2 A23.out).mono ?_); (case side1 => exact cc (Kd.C_below HR0.out HB.out)); (case side2 => exact HC0.out); rintro e w25 ⟨v313, rfl, ho0, hb⟩; refine ⟨_, rfl, ?_⟩; have n0_ := Aside0.mk (Kd.R_lower ho0 (below_size (bp HB.out))); have n1_ := an0 HB hb; clear HB; have HO314 := n0_; have HB := n1_; clear n0_ n1_; (try clear hb); (try clear hb2); (try clear hk); (try clear hi); (try clear ho0)))
            go_ret2
            exact ⟨_, fe, by (with_reducible repeat (first | apply Kd.R_alloc | apply Kd.R_drewN | apply Kd.R_drew)); exact HO314.out, bp HB.out⟩
          · rw [if_neg c22] at H
            have c22b0 : decide (48 ≤ (l0.length : Int)) = false := decide_eq_false c22
            have c22b1 : decide (48 ≤ l0.length) = false := decide_eq_false (by omega)
            clear c22
            obtain ⟨y315, hy315⟩ : ∃ y_ : List (S29), y_ = (([(⟨a1, a2⟩ : S29)] : List (S29))) := ⟨_, rfl⟩
            replace H : ((impl_Pair_137.f l0 t304 0 y315).bind fun t318 => (some (t318, true))) = some (r1, r2) := by first | (rw [hy315]; with_reducible exact H) | (have H2_ := (Option.bind_some _ _).symm.trans H; rw [hy315]; with_reducible exact H2_) | (have H2_ := (Option.bind_some _ _).symm.trans H; with_reducible exact H2_) | with_reducible exact H | (rw [hy315]; exact H) | exact H
            have Ny315 := Aside0.mk hy315
            clear hy315
            replace H := Option.bind_eq_some_iff.mp H
            obtain ⟨t318, A260, H⟩ := H
            replace H : (some (t318, true)) = some (r1, r2) := H
            have A26 := Aside0.mk A260
            clear A260
            simp only [Option.some.injEq, Prod.mk.injEq] at H
            obtain ⟨rfl, rfl⟩ := H
            go_wp2_with (first | ((with_reducible refine gate_callee (f := 115) rfl ?_); refine gsl (some 26) rfl Try.func115 #[.slice A0 l0.length c0, .string a1] rfl ?_; (with_reducible refine (impl_pairPlace.calls kj3 _ _ l0 a1 t304 false _ ?side1 ?side2 A14.out).mono ?_); (case side1 => exact cc (Kd.C_below HR0.out HB.out)); (case side2 => exact HC0.out); rintro e w27 ⟨rfl, hb⟩; refine ⟨_, rfl, ?_⟩; replace HB := an0 HB hb; (try clear hb); (try clear hb2); (try clear hk); (try clear hi)) | ((with_reducible refine gate_dst (N := 47) rfl ?_); refine Kd.R_lit k29 _ 29 ?hg (N := 47) ?hd (xs := ([(⟨a1, a2⟩ : S29)] : List (S29))) (inner := [.string a1, .int .i64 a2]) (ok := fun _ => True) (okp := fun _ => True) ?hr ?hp (fun _ hk => hk) trivial (Below.refl _ _) (Nat.le_refl _) (by simp) ?_; (case hd => rfl); (case hg => rfl); (case hr => first | (go_simp; done) | (go_simp; rfl)); (case hp => exact (Reps.c2 (show Kd.M k29 _ _ _ (⟨a1, a2⟩ : S29) [.string a1, .int .i64 a2] from (k29_mkM _ _ _ (⟨a1, a2⟩ : S29) )) (Reps.none _ _))); intro v316 w28 ho29 hb hg_ hnew_; clear hg_ hnew_; (first | rw [← Ny315.out] at ho29 | (simp only [Int.reduceToNat] at ho29; rw [← Ny315.out] at ho29)); have n0_ := Aside0.mk (Kd.R_lower ho29 (below_size (bp HB.out))); have n1_ := an0 HB hb; clear HB; have HO317 := n0_; have HB := n1_; clear n0_ n1_; clear hb ho29; obtain ⟨Ao30, co30, eo30⟩ := Kd.R_slice HO317.out; subst eo30) | ((with_reducible refine gate_callee (f := 137) rfl ?_); refine gsl (some 48) rfl Try.func137 #[.slice A0 l0.length c0, .int .i64 t304, .int .i64 0, .slice Ao30 y315.length co30] rfl ?_; (with_reducible refine (impl_Pair_137.calls _ _ l0 t304 0 _ _ y315 t318 _ ?side1 ?side2 ?side3 ?side4 A26.out).mono ?_); (case side1 => exact cc (Kd.C_below HR0.out HB.out)); (case side2 => exact HC0.out); (case side3 => exact impl_PairPut.s0 HO317.out); (case side4 => exact (Kd.R_reads' HO317.out).2.1); rintro e w31 ⟨v319, rfl, ho0, hb⟩; refine ⟨_, rfl, ?_⟩; have n0_ := Aside0.mk (Kd.R_elder' (kr HO317.out) (Kd.R_base ho0) hb); have n1_ := Aside0.mk (Kd.R_lower (Kd.R_new' ho0 (Kd.R_lt (kr HO317.out))) (below_size (bp HB.out))); have n2_ := an0 HB hb; clear HO317; clear HB; have HO317 := n0_; have HO320 := n1_; have HB := n2_; clear n0_ n1_ n2_; (try clear hb); (try clear hb2); (try clear hk); (try clear hi); (try clear ho0)))
            go_ret2
            exact ⟨_, fe, by (with_reducible repeat (first | apply Kd.R_alloc | apply Kd.R_drewN | apply Kd.R_drew)); exact Kd.R_mono HO320.out (fun _ hk => trivial), bp HB.out⟩

end Go.Proofs.Ytfeeifefmenlmaa.PFnExactApplyFeed
