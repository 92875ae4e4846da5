-- Written by a program of this session, in the manner of the kit's print (wip/pp.py): functions and their contracts.
import Derived.Test.YtfeeifefmenlmaaPFnExactDiffPartsx0
import Derived.Test.YtfeeifefmenlmaaPFnExactDiffPartsx8
namespace Go.Proofs.Ytfeeifefmenlmaa.PFnExactDiffParts
open Go.RowKit Go.Proofs.YtfeeifefmenlmaaW.PrintWords Go.Proofs.YtfeeifefmenlmaaW.PrintLast Go.Proofs.YtfeeifefmenlmaaW.PrintMore
attribute [local go_sem] binOp_leq_str binOp_gtr_str binOp_geq_str max2_int min2_int max_two min_two max_three min_three max_four min_four   -- for this text's walks alone
set_option linter.unusedVariables false
set_option linter.unusedSimpArgs false

/-! ### impl_rankBelow: function 128 -/
def impl_rankBelow.f : Nat → ByteArray → Int → Option (Int)
  | 0, _, _ => none
  | k + 1, a0, a1 => if a0.toList = ([] : List UInt8) then (some 0) else (if 0 < (a0.size : Int) then ((impl_keysFrom.f k a1).bind fun t242 => (if 1 ≤ (a0.size : Int) then ((impl_rankBelow.f k (a0.extract 1 a0.size) (wrap64 (a1 + 1))).bind fun t243 => (some (wrap64 ((wrap64 (1 + (wrap64 ((((bt a0 0) - 97) % 256) * t242)))) + t243)))) else (none))) else (none))
theorem impl_rankBelow.mono_l : ∀ k, (∀ y0 y1, LeO (impl_rankBelow.f k y0 y1) (impl_rankBelow.f (k + 1) y0 y1))
  | 0 => fun _ _ r h => by simp [impl_rankBelow.f] at h
  | k + 1 => by
    have ih0 := impl_rankBelow.mono_l k
    · intro y0 y1
      unfold impl_rankBelow.f
      repeat' first
      | (with_reducible exact ih0 _ _)
      | (with_reducible exact impl_keysFrom.mono _ _)
      | (with_reducible exact LeO.refl _)
      | (with_reducible exact LeO.none _)
      | (with_reducible refine LeO.ite ?_ ?_)
      | (with_reducible refine LeO.bind ?_ (fun _ => ?_))
      | exact ih0 _ _
      | exact impl_keysFrom.mono _ _
      | exact LeO.none _
      | refine LeO.ite ?_ ?_
      | refine LeO.bind ?_ (fun _ => ?_)
theorem impl_rankBelow.mono : ∀ a0 a1 k, LeO (impl_rankBelow.f k a0 a1) (impl_rankBelow.f (k + 1) a0 a1) := by
  intro a0 a1 k
  have ih0 := impl_rankBelow.mono_l k
  exact ih0 a0 a1
def impl_rankBelow.T3 : Bool × List (List Nat × List Nat) := (true, [([], []), ([0], [0]), ([1], [1]), ([2], [2]), ([], []), ([4], [4]), ([3, 5], [3, 5]), ([6], [6]), ([], []), ([8], [8]), ([], []), ([10], [10]), ([9, 11, 5], [9, 11]), ([7, 12], [7, 12]), ([13, 12, 0, 1, 2, 3, 4, 5, 6, 7, 8, 9, 10, 11, 12, 13], [13])])
def impl_rankBelow.B3 : List Nat := [0, 1, 3, 7, 0, 16, 63, 127, 0, 256, 0, 1024, 3888, 8191, 16383]
theorem impl_rankBelow.tab3 : rtab .any (opsOf Try.f128 3) = impl_rankBelow.T3 := by kernel_rfl
theorem impl_rankBelow.bits3 : waitsOk impl_rankBelow.T3.2 impl_rankBelow.B3 = true := by kernel_rfl
set_option maxHeartbeats 8000000 in
set_option maxRecDepth 100000 in
theorem impl_rankBelow.calls (k : Nat) : ∀ (a0 : ByteArray) (a1 : Int) (r : Int) (w : World) (h : impl_rankBelow.f k a0 a1 = some r),
    Calls Try.prog 128 #[.string a0, .int .i64 a1] w fun e w' => e = .returned (.int .i64 r) ∧ Below w.heap.size w w' := by
  induction k using Nat.strongRecOn with
  | _ k ih =>
  intro a0 a1 r w h
  cases k with
  | zero => exact absurd h (by simp [impl_rankBelow.f])
  | succ k =>
  simp only [impl_rankBelow.f] at h
  have HB := Aside0.mk (Below.refl w.heap.size w)
  have H : (if a0.toList = ([] : List UInt8) then (some 0) else (if 0 < (a0.size : Int) then ((impl_keysFrom.f k a1).bind fun t242 => (if 1 ≤ (a0.size : Int) then ((impl_rankBelow.f k (a0.extract 1 a0.size) (wrap64 (a1 + 1))).bind fun t243 => (some (wrap64 ((wrap64 (1 + (wrap64 ((((bt a0 0) - 97) % 256) * t242)))) + t243)))) else (none))) else (none))) = some r := h
  clear h
  by_cases c3 : a0.toList = ([] : List UInt8)
  · rw [if_pos c3] at H
    have c3b0 : (a0.toList == ([] : List UInt8)) = true := beq_iff_eq.mpr c3
    have c3b1 : (a0.toList != ([] : List UInt8)) = false := bne_eq_false_iff_eq.mpr c3
    clear c3
    obtain rfl := Option.some.inj H
    go_enter Try.func128, Try.ntmps128
    go_wp2
    go_ret
    exact ⟨fe, bp HB.out⟩
  · rw [if_neg c3] at H
    have c3b0 : (a0.toList == ([] : List UInt8)) = false := beq_eq_false_iff_ne.mpr c3
    have c3b1 : (a0.toList != ([] : List UInt8)) = true := bne_iff_ne.mpr c3
    by_cases c4 : 0 < (a0.size : Int)
    · rw [if_pos c4] at H
      have c4b0 : decide (0 < (a0.size : Int)) = true := decide_eq_true c4
      have c4b1 : decide (0 < a0.size) = true := decide_eq_true (by omega)
      clear c4
      replace H := Option.bind_eq_some_iff.mp H
      obtain ⟨t242, A60, H⟩ := H
      replace H : (if 1 ≤ (a0.size : Int) then ((impl_rankBelow.f k (a0.extract 1 a0.size) (wrap64 (a1 + 1))).bind fun t243 => (some (wrap64 ((wrap64 (1 + (wrap64 ((((bt a0 0) - 97) % 256) * t242)))) + t243)))) else (none)) = some r := H
      have A6 := Aside0.mk A60
      clear A60
      by_cases c7 : 1 ≤ (a0.size : Int)
      · rw [if_pos c7] at H
        have c7b0 := eq_true c7
        have c7b1 : decide (1 ≤ (a0.size : Int)) = true := decide_eq_true c7
        clear c7
        replace H := Option.bind_eq_some_iff.mp H
        obtain ⟨t243, A80, H⟩ := H
        replace H : (some (wrap64 ((wrap64 (1 + (wrap64 ((((bt a0 0) - 97) % 256) * t242)))) + t243))) = some r := H
        have A8 := Aside0.mk A80
        clear A80
        obtain rfl := Option.some.inj H
        go_enter Try.func128, Try.ntmps128
        try go_wp2
        have n0_ := Aside0.mk (below_drew1 HB.out)
        clear HB
        have HB := n0_
        clear n0_
        have p5 : 0 ≤ (0 : Int) := (by omega)
        have q5 : 0 < a0.size := (by have : (0 : Int) < (a0.size : Int) := of_decide_eq_true (by first | (with_reducible assumption) | assumption); omega)
        have hx5 : ∀ h : 0 < a0.size, ((a0[0]'h).toNat : Int) = bt a0 0 := bt_at a0 0
        clear p5
        have qi5 : (0 < (a0.size : Int)) = True := eq_true (of_decide_eq_true (by first | (with_reducible assumption) | assumption))
        replace q5 := eq_true q5
        refine start_ (n := 15) (S := fun w' => True) (ds := []) #[false, false, false, false, false, false, false, false, false, false, false, false, false, false, false] (by kernel_rfl) rfl rfl trivial (fun hHeld => ?_); refine with_tabW impl_rankBelow.tab3 impl_rankBelow.bits3 (fun HT_ HW_ => ?_)
        generalize w.drew = w9 at HB hHeld ⊢
        refine pur (i := 0) (N := some 7) #[true, false, false, false, false, false, false, false, false, false, false, false, false, false, false] rfl rfl HT_.out ?_
        refine pur (i := 4) (N := some 11) #[true, false, false, false, true, false, false, false, false, false, false, false, false, false, false] rfl rfl HT_.out ?_
        refine pur (i := 8) (N := some 15) #[true, false, false, false, true, false, false, false, true, false, false, false, false, false, false] rfl rfl HT_.out ?_
        refine pur (i := 9) (N := some 16) #[true, false, false, false, true, false, false, false, true, true, false, false, false, false, false] rfl rfl HT_.out ?_
        refine pur (i := 10) (N := some 17) #[true, false, false, false, true, false, false, false, true, true, true, false, false, false, false] rfl rfl HT_.out ?_
        refine pur (i := 11) (N := some 18) #[true, false, false, false, true, false, false, false, true, true, true, true, false, false, false] rfl rfl HT_.out ?_
        refine take_ (i := 1) (N := some 8) (v := ?_) (a' := ?_) #[true, true, false, false, true, false, false, false, true, true, true, true, false, false, false] rfl rfl (take_ofW HT_.out HW_.out (by kernel_rfl)) (fun _ _ _ h => h) (Or.inl ⟨by rfl, ?_⟩) hHeld ?_ ?_
        rotate_left
        · intro w' _
          go_simp
          with_reducible rfl
        rotate_left; focus (simp only [Act.put, List.setIfInBounds_toArray, List.set_cons_zero, List.set_cons_succ, i64_w, i32_w]; rfl)
        refine pur (i := 2) (N := some 9) #[true, true, true, false, true, false, false, false, true, true, true, true, false, false, false] rfl rfl HT_.out ?_
        refine pur (i := 3) (N := some 10) #[true, true, true, true, true, false, false, false, true, true, true, true, false, false, false] rfl rfl HT_.out ?_
        refine one_ (i := 5) (N := some 12) #[true, true, true, true, true, true, false, false, true, true, true, true, false, false, false] rfl rfl (one_of HT_.out (by kernel_rfl)) (by decide) (fun K hK => ?_)
        refine goes_ Try.func159 (by kernel_rfl) rfl #[.int .i64 a1] (by rfl) rfl rfl (by (try simp only [List.map_toArray, List.map_cons, List.map_nil]); first | done | rfl | (simp only [List.length_drop, List.length_take]; rfl)) ?_
        with_reducible refine (impl_keysFrom.calls k a1 t242 _ A6.out).mono ?_
        rintro e w' ⟨rfl, ⟨nd, rfl⟩⟩
        refine ⟨_, rfl, ?_⟩
        refine hK.out _ _ trivial (fun hHeld => ?_)
        clear hK K
        refine norm_ (a' := ?_) ?_ ?_
        rotate_left
        · show Act.put _ (some 12) _ = _
          simp only [Act.put, List.setIfInBounds_toArray, List.set_cons_zero, List.set_cons_succ, i64_w, i32_w]
          rfl
        refine pur (i := 6) (N := some 13) #[true, true, true, true, true, true, true, false, true, true, true, true, false, false, false] rfl rfl HT_.out ?_
        refine pur (i := 7) (N := some 14) #[true, true, true, true, true, true, true, true, true, true, true, true, false, false, false] rfl rfl HT_.out ?_
        refine one_ (i := 12) (N := some 19) #[true, true, true, true, true, true, true, true, true, true, true, true, true, false, false] rfl rfl (one_of HT_.out (by kernel_rfl)) (by decide) (fun K hK => ?_)
        refine goes_ Try.func128 (by kernel_rfl) rfl #[.string (a0.extract 1 a0.size), .int .i64 (wrap64 (a1 + 1))] (by rfl) rfl rfl (by (try simp only [List.map_toArray, List.map_cons, List.map_nil]); first | done | rfl | (simp only [List.length_drop, List.length_take]; rfl)) ?_
        with_reducible refine (ih k (by omega) (a0.extract 1 a0.size) (wrap64 (a1 + 1)) t243 _ A8.out).mono ?_
        rintro e w10 ⟨rfl, hb⟩
        refine ⟨_, rfl, ?_⟩
        have n0_ := an0 HB hb
        clear HB
        have HB := n0_
        clear n0_
        (try clear hb)
        (try clear hb2)
        (try clear hk)
        (try clear hi)
        refine hK.out _ _ trivial (fun hHeld => ?_)
        clear hK K
        refine norm_ (a' := ?_) ?_ ?_
        rotate_left
        · show Act.put _ (some 19) _ = _
          simp only [Act.put, List.setIfInBounds_toArray, List.set_cons_zero, List.set_cons_succ, i64_w, i32_w]
          rfl
        refine pur (i := 13) (N := some 20) #[true, true, true, true, true, true, true, true, true, true, true, true, true, true, false] rfl rfl HT_.out ?_
        refine pur (i := 14) (N := some 4) #[true, true, true, true, true, true, true, true, true, true, true, true, true, true, true] rfl rfl HT_.out ?_
        refine done_ (done_of HT_.out (by kernel_rfl)) ?_
        try go_wp2
        go_ret
        exact ⟨fe, bp HB.out⟩
      · rw [if_neg c7] at H
        exact absurd H (by simp)
    · rw [if_neg c4] at H
      exact absurd H (by simp)

/-! ### impl_KeyRank: function 76 -/
def impl_KeyRank.f (k : Nat) (a0 : ByteArray) : Option (Int) := (impl_KeyValid.f k a0).bind fun t244 => (if t244 = true then ((impl_rankBelow.f k a0 1).bind fun t245 => (some (wrap64 (t245 - 1)))) else (some (-1)))
theorem impl_KeyRank.mono : ∀ a0 k, LeO (impl_KeyRank.f k a0) (impl_KeyRank.f (k + 1) a0) := by
  intro a0 k
  unfold impl_KeyRank.f
  repeat' first
      | (with_reducible exact impl_KeyValid.mono _ _)
      | (with_reducible exact impl_rankBelow.mono _ _ _)
      | (with_reducible exact LeO.refl _)
      | (with_reducible exact LeO.none _)
      | (with_reducible refine LeO.ite ?_ ?_)
      | (with_reducible refine LeO.bind ?_ (fun _ => ?_))
      | exact impl_KeyValid.mono _ _
      | exact impl_rankBelow.mono _ _ _
      | exact LeO.none _
      | refine LeO.ite ?_ ?_
      | refine LeO.bind ?_ (fun _ => ?_)
set_option maxHeartbeats 8000000 in
set_option maxRecDepth 100000 in
theorem impl_KeyRank.calls (k : Nat) (a0 : ByteArray) (r : Int) (w : World) (h : impl_KeyRank.f k a0 = some r) :
    Calls Try.prog 76 #[.string a0] w fun e w' => e = .returned (.int .i64 r) ∧ Below w.heap.size w w' := by
  have HB := Aside0.mk (Below.refl w.heap.size w)
  have H : ((impl_KeyValid.f k a0).bind fun t244 => (if t244 = true then ((impl_rankBelow.f k a0 1).bind fun t245 => (some (wrap64 (t245 - 1)))) else (some (-1)))) = some r := h
  clear h
  replace H := Option.bind_eq_some_iff.mp H
  obtain ⟨t244, A20, H⟩ := H
  replace H : (if t244 = true then ((impl_rankBelow.f k a0 1).bind fun t245 => (some (wrap64 (t245 - 1)))) else (some (-1))) = some r := H
  have A2 := Aside0.mk A20
  clear A20
  by_cases c3 : t244 = true
  · subst c3
    have H1 : ((impl_rankBelow.f k a0 1).bind fun t245 => (some (wrap64 (t245 - 1)))) = some r := by rw [if_pos rfl] at H; exact H
    clear H
    have H := H1
    clear H1
    replace H := Option.bind_eq_some_iff.mp H
    obtain ⟨t245, A40, H⟩ := H
    replace H : (some (wrap64 (t245 - 1))) = some r := H
    have A4 := Aside0.mk A40
    clear A40
    obtain rfl := Option.some.inj H
    go_enter Try.func76, Try.ntmps76
    go_wp2_with (first | ((with_reducible refine gate_callee (f := 74) rfl ?_); refine gsl (some 4) rfl Try.func74 #[.string a0] rfl ?_; (with_reducible refine (impl_KeyValid.calls k a0 true _ A2.out).mono ?_); rintro e w' ⟨rfl, ⟨nd, rfl⟩⟩; refine ⟨_, rfl, ?_⟩) | ((with_reducible refine gate_callee (f := 128) rfl ?_); refine gsl (some 7) rfl Try.func128 #[.string a0, .int .i64 1] rfl ?_; (with_reducible refine (impl_rankBelow.calls k a0 1 t245 _ A4.out).mono ?_); rintro e w5 ⟨rfl, hb⟩; refine ⟨_, rfl, ?_⟩; replace HB := an0 HB hb; (try clear hb); (try clear hb2); (try clear hk); (try clear hi)))
    go_ret
    exact ⟨fe, bp HB.out⟩
  · replace c3 := Bool.eq_false_iff.mpr c3
    subst c3
    have H1 : (some (-1)) = some r := by rw [if_neg (show ¬ (false = true) by decide)] at H; exact H
    clear H
    have H := H1
    clear H1
    obtain rfl := Option.some.inj H
    go_enter Try.func76, Try.ntmps76
    go_wp2_with (first | ((with_reducible refine gate_callee (f := 74) rfl ?_); refine gsl (some 4) rfl Try.func74 #[.string a0] rfl ?_; (with_reducible refine (impl_KeyValid.calls k a0 false _ A2.out).mono ?_); rintro e w' ⟨rfl, ⟨nd, rfl⟩⟩; refine ⟨_, rfl, ?_⟩))
    go_ret
    exact ⟨fe, bp HB.out⟩

/-! ### impl_PairDigest: function 19 -/
def impl_PairDigest.f (k : Nat) (a0_0 : ByteArray) (a0_1 : Int) : Option (Int) := (impl_KeyValid.f k a0_0).bind fun t247 => (if t247 = true then ((impl_valueValid.f a0_1).bind fun t248 => (if t248 = true then ((impl_KeyRank.f k a0_0).bind fun t249 => (some (Int.tmod (wrap64 ((wrap64 ((wrap64 (1009 * t249)) + (wrap64 (7 * a0_1)))) + 3)) 99991))) else (some (-1)))) else (some (-1)))
theorem impl_PairDigest.mono : ∀ a0 a1 k, LeO (impl_PairDigest.f k a0 a1) (impl_PairDigest.f (k + 1) a0 a1) := by
  intro a0 a1 k
  unfold impl_PairDigest.f
  repeat' first
      | (with_reducible exact impl_KeyRank.mono _ _)
      | (with_reducible exact impl_KeyValid.mono _ _)
      | (with_reducible exact LeO.refl _)
      | (with_reducible exact LeO.none _)
      | (with_reducible refine LeO.ite ?_ ?_)
      | (with_reducible refine LeO.bind ?_ (fun _ => ?_))
      | exact impl_KeyRank.mono _ _
      | exact impl_KeyValid.mono _ _
      | exact LeO.none _
      | refine LeO.ite ?_ ?_
      | refine LeO.bind ?_ (fun _ => ?_)
def impl_PairDigest.T3 : Bool × List (List Nat × List Nat) := (true, [([], []), ([0], [0]), ([1], [1]), ([2], [2]), ([], []), ([4], [4]), ([5], [5]), ([3, 6], [3, 6]), ([7], [7]), ([8], [8]), ([9, 2, 0, 1, 2, 3, 4, 5, 6, 7, 8, 9], [9])])
def impl_PairDigest.B3 : List Nat := [0, 1, 3, 7, 0, 16, 48, 127, 255, 511, 1023]
theorem impl_PairDigest.tab3 : rtab .any (opsOf Try.f19 3) = impl_PairDigest.T3 := by kernel_rfl
theorem impl_PairDigest.bits3 : waitsOk impl_PairDigest.T3.2 impl_PairDigest.B3 = true := by kernel_rfl
set_option maxHeartbeats 8000000 in
set_option maxRecDepth 100000 in
theorem impl_PairDigest.calls (k : Nat) (a0_0 : ByteArray) (a0_1 : Int) (r : Int) (w : World) (h : impl_PairDigest.f k a0_0 a0_1 = some r) :
    Calls Try.prog 19 #[.agg #[.string a0_0, .int .i64 a0_1]] w fun e w' => e = .returned (.int .i64 r) ∧ Below w.heap.size w w' := by
  have hu29 := Try.underlying29
  have HB := Aside0.mk (Below.refl w.heap.size w)
  have H : ((impl_KeyValid.f k a0_0).bind fun t247 => (if t247 = true then ((impl_valueValid.f a0_1).bind fun t248 => (if t248 = true then ((impl_KeyRank.f k a0_0).bind fun t249 => (some (Int.tmod (wrap64 ((wrap64 ((wrap64 (1009 * t249)) + (wrap64 (7 * a0_1)))) + 3)) 99991))) else (some (-1)))) else (some (-1)))) = some r := h
  clear h
  replace H := Option.bind_eq_some_iff.mp H
  obtain ⟨t247, A20, H⟩ := H
  replace H : (if t247 = true then ((impl_valueValid.f a0_1).bind fun t248 => (if t248 = true then ((impl_KeyRank.f k a0_0).bind fun t249 => (some (Int.tmod (wrap64 ((wrap64 ((wrap64 (1009 * t249)) + (wrap64 (7 * a0_1)))) + 3)) 99991))) else (some (-1)))) else (some (-1))) = some r := H
  have A2 := Aside0.mk A20
  clear A20
  by_cases c3 : t247 = true
  · subst c3
    have H1 : ((impl_valueValid.f a0_1).bind fun t248 => (if t248 = true then ((impl_KeyRank.f k a0_0).bind fun t249 => (some (Int.tmod (wrap64 ((wrap64 ((wrap64 (1009 * t249)) + (wrap64 (7 * a0_1)))) + 3)) 99991))) else (some (-1)))) = some r := by rw [if_pos rfl] at H; exact H
    clear H
    have H := H1
    clear H1
    replace H := Option.bind_eq_some_iff.mp H
    obtain ⟨t248, A40, H⟩ := H
    replace H : (if t248 = true then ((impl_KeyRank.f k a0_0).bind fun t249 => (some (Int.tmod (wrap64 ((wrap64 ((wrap64 (1009 * t249)) + (wrap64 (7 * a0_1)))) + 3)) 99991))) else (some (-1))) = some r := H
    have A4 := Aside0.mk A40
    clear A40
    by_cases c5 : t248 = true
    · subst c5
      have H1 : ((impl_KeyRank.f k a0_0).bind fun t249 => (some (Int.tmod (wrap64 ((wrap64 ((wrap64 (1009 * t249)) + (wrap64 (7 * a0_1)))) + 3)) 99991))) = some r := by rw [if_pos rfl] at H; exact H
      clear H
      have H := H1
      clear H1
      replace H := Option.bind_eq_some_iff.mp H
      obtain ⟨t249, A60, H⟩ := H
      replace H : (some (Int.tmod (wrap64 ((wrap64 ((wrap64 (1009 * t249)) + (wrap64 (7 * a0_1)))) + 3)) 99991)) = some r := H
      have A6 := Aside0.mk A60
      clear A60
      obtain rfl := Option.some.inj H
      go_enter Try.func19, Try.ntmps19
      try go_wp2_with (first | ((with_reducible refine gate_dst (N := 1) rfl ?_); refine bxe (N := 1) (cs := #[.string a0_0, .int .i64 a0_1]) (t := 29) ?_; intro gb246 hg w7 hbox hb; have BK246 := Aside0.mk (hbox); have GW246 := an2 HB hg; have GE246 := an2 HB hg; replace HB := an0 HB hb; clear hb hbox hg; obtain ⟨hcz8_0, hcz8_1, hfz8_0, hfz8_1⟩ := cl2 BK246) | ((with_reducible refine gate_callee (f := 74) rfl ?_); refine gsl (some 5) rfl Try.func74 #[.string a0_0] rfl ?_; (with_reducible refine (impl_KeyValid.calls k a0_0 true _ A2.out).mono ?_); rintro e w' ⟨rfl, ⟨nd, rfl⟩⟩; refine ⟨_, rfl, ?_⟩) | (go_at_call 75; (with_reducible refine (impl_valueValid.calls a0_1 true _ A4.out).mono ?_); rintro e w' ⟨rfl, ⟨nd, rfl⟩⟩))
      (try (rw [drewN_self w7]; generalize hq_ : World.drewN w7 _ = w7; have n0_ : Aside0 (w7.heap[gb246]? = some (.cells #[.string a0_0, .int .i64 a0_1] 29 (0, 0))) := ⟨by rw [← hq_]; exact (kb BK246.out)⟩; have n1_ : Aside0 (Below w.heap.size w w7) := ⟨by rw [← hq_]; exact (bp HB.out)⟩; clear BK246 HB hq_; have BK246 := n0_; have HB := n1_; clear n0_ n1_))
      have n0_ := Aside0.mk (blk_drew BK246.out)
      have n1_ := Aside0.mk (below_drew1 HB.out)
      clear BK246
      clear HB
      have BK246 := n0_
      have HB := n1_
      clear n0_ n1_
      refine start_ (n := 11) (S := fun w' => w'.cell? ⟨gb246, 0, none⟩ = some (.string a0_0) ∧ w'.cell? ⟨gb246, 1, none⟩ = some (.int .i64 a0_1)) (ds := []) #[false, false, false, false, false, false, false, false, false, false, false] (by kernel_rfl) rfl rfl ⟨(blk_cell BK246.out 0).trans rfl, (blk_cell BK246.out 1).trans rfl⟩ (fun hHeld => ?_); refine with_tabW impl_PairDigest.tab3 impl_PairDigest.bits3 (fun HT_ HW_ => ?_)
      generalize w7.drew = w9 at BK246 HB hHeld ⊢
      refine pur (i := 0) (N := some 13) #[true, false, false, false, false, false, false, false, false, false, false] rfl rfl HT_.out ?_
      refine pur (i := 4) (N := some 17) #[true, false, false, false, true, false, false, false, false, false, false] rfl rfl HT_.out ?_
      refine take_ (i := 1) (N := some 14) (v := ?_) (a' := ?_) #[true, true, false, false, true, false, false, false, false, false, false] rfl rfl (take_ofW HT_.out HW_.out (by kernel_rfl)) (fun _ _ _ h => h) (Or.inl ⟨by rfl, ?_⟩) hHeld ?_ ?_
      rotate_left
      · rintro w' ⟨s0, s1⟩
        go_simp
        with_reducible rfl
      rotate_left; focus (simp only [Act.put, List.setIfInBounds_toArray, List.set_cons_zero, List.set_cons_succ, i64_w, i32_w]; rfl)
      refine take_ (i := 5) (N := some 18) (v := ?_) (a' := ?_) #[true, true, false, false, true, true, false, false, false, false, false] rfl rfl (take_ofW HT_.out HW_.out (by kernel_rfl)) (fun _ _ _ h => h) (Or.inl ⟨by rfl, ?_⟩) hHeld ?_ ?_
      rotate_left
      · rintro w' ⟨s0, s1⟩
        go_simp
        with_reducible rfl
      rotate_left; focus (simp only [Act.put, List.setIfInBounds_toArray, List.set_cons_zero, List.set_cons_succ, i64_w, i32_w]; rfl)
      refine pur (i := 6) (N := some 19) #[true, true, false, false, true, true, true, false, false, false, false] rfl rfl HT_.out ?_
      refine one_ (i := 2) (N := some 15) #[true, true, true, false, true, true, true, false, false, false, false] rfl rfl (one_of HT_.out (by kernel_rfl)) (by decide) (fun K hK => ?_)
      refine goes_ Try.func76 (by kernel_rfl) rfl #[.string a0_0] (by rfl) rfl rfl (by (try simp only [List.map_toArray, List.map_cons, List.map_nil]); first | done | rfl | (simp only [List.length_drop, List.length_take]; rfl)) ?_
      with_reducible refine (impl_KeyRank.calls k a0_0 t249 _ A6.out).mono ?_
      rintro e w10 ⟨rfl, hb⟩
      refine ⟨_, rfl, ?_⟩
      have n0_ := an1 BK246 hb
      have n1_ := an0 HB hb
      clear BK246
      clear HB
      have BK246 := n0_
      have HB := n1_
      clear n0_ n1_
      (try clear hb)
      (try clear hb2)
      (try clear hk)
      (try clear hi)
      refine hK.out _ _ ⟨(blk_cell BK246.out 0).trans rfl, (blk_cell BK246.out 1).trans rfl⟩ (fun hHeld => ?_)
      clear hK K
      refine norm_ (a' := ?_) ?_ ?_
      rotate_left
      · show Act.put _ (some 15) _ = _
        simp only [Act.put, List.setIfInBounds_toArray, List.set_cons_zero, List.set_cons_succ, i64_w, i32_w]
        rfl
      refine pur (i := 3) (N := some 16) #[true, true, true, true, true, true, true, false, false, false, false] rfl rfl HT_.out ?_
      refine pur (i := 7) (N := some 20) #[true, true, true, true, true, true, true, true, false, false, false] rfl rfl HT_.out ?_
      refine pur (i := 8) (N := some 21) #[true, true, true, true, true, true, true, true, true, false, false] rfl rfl HT_.out ?_
      refine pur (i := 9) (N := some 22) #[true, true, true, true, true, true, true, true, true, true, false] rfl rfl HT_.out ?_
      refine pur (i := 10) (N := some 2) #[true, true, true, true, true, true, true, true, true, true, true] rfl rfl HT_.out ?_
      refine done_ (done_of HT_.out (by kernel_rfl)) ?_
      try go_wp2
      go_ret
      exact ⟨fe, bp HB.out⟩
    · replace c5 := Bool.eq_false_iff.mpr c5
      subst c5
      have H1 : (some (-1)) = some r := by rw [if_neg (show ¬ (false = true) by decide)] at H; exact H
      clear H
      have H := H1
      clear H1
      obtain rfl := Option.some.inj H
      go_enter Try.func19, Try.ntmps19
      go_wp2_with (first | ((with_reducible refine gate_dst (N := 1) rfl ?_); refine bxe (N := 1) (cs := #[.string a0_0, .int .i64 a0_1]) (t := 29) ?_; intro gb246 hg w11 hbox hb; have BK246 := Aside0.mk (hbox); have GW246 := an2 HB hg; have GE246 := an2 HB hg; replace HB := an0 HB hb; clear hb hbox hg; obtain ⟨hcz12_0, hcz12_1, hfz12_0, hfz12_1⟩ := cl2 BK246) | ((with_reducible refine gate_callee (f := 74) rfl ?_); refine gsl (some 5) rfl Try.func74 #[.string a0_0] rfl ?_; (with_reducible refine (impl_KeyValid.calls k a0_0 true _ A2.out).mono ?_); rintro e w' ⟨rfl, ⟨nd, rfl⟩⟩; refine ⟨_, rfl, ?_⟩) | (go_at_call 75; (with_reducible refine (impl_valueValid.calls a0_1 false _ A4.out).mono ?_); rintro e w' ⟨rfl, ⟨nd, rfl⟩⟩))
      go_ret
      exact ⟨fe, bp HB.out⟩
  · replace c3 := Bool.eq_false_iff.mpr c3
    subst c3
    have H1 : (some (-1)) = some r := by rw [if_neg (show ¬ (false = true) by decide)] at H; exact H
    clear H
    have H := H1
    clear H1
    obtain rfl := Option.some.inj H
    go_enter Try.func19, Try.ntmps19
    go_wp2_with (first | ((with_reducible refine gate_dst (N := 1) rfl ?_); refine bxe (N := 1) (cs := #[.string a0_0, .int .i64 a0_1]) (t := 29) ?_; intro gb246 hg w13 hbox hb; have BK246 := Aside0.mk (hbox); have GW246 := an2 HB hg; have GE246 := an2 HB hg; replace HB := an0 HB hb; clear hb hbox hg; obtain ⟨hcz14_0, hcz14_1, hfz14_0, hfz14_1⟩ := cl2 BK246) | ((with_reducible refine gate_callee (f := 74) rfl ?_); refine gsl (some 5) rfl Try.func74 #[.string a0_0] rfl ?_; (with_reducible refine (impl_KeyValid.calls k a0_0 false _ A2.out).mono ?_); rintro e w' ⟨rfl, ⟨nd, rfl⟩⟩; refine ⟨_, rfl, ?_⟩))
    go_ret
    exact ⟨fe, bp HB.out⟩

/-! ### impl_PairsDigest: function 15 -/
def impl_PairsDigest.l0 : Nat → Int → List (S29) → Int → Int → Option (Int)
  | 0, _, _, _, _ => none
  | k + 1, x3, x9, x10, x11 => if x11 < x10 then (if 0 ≤ x11 then (if x11 < (x9.length : Int) then ((impl_PairDigest.f k ((rd_T29 x9 x11).f0) ((rd_T29 x9 x11).f1)).bind fun t253 => (impl_PairsDigest.l0 k (wrap64 (x3 + t253)) x9 x10 (wrap64 (x11 + 1)))) else (none)) else (none)) else (some (Int.tmod x3 99991))
def impl_PairsDigest.f (k : Nat) (l0 : List (S29)) : Option (Int) := (impl_PairsValid.f k l0).bind fun t250 => (if t250 = true then (impl_PairsDigest.l0 k 0 l0 (l0.length : Int) 0) else (some (-1)))
theorem impl_PairsDigest.mono_l : ∀ k, (∀ y0 y1 y2 y3, LeO (impl_PairsDigest.l0 k y0 y1 y2 y3) (impl_PairsDigest.l0 (k + 1) y0 y1 y2 y3))
  | 0 => fun _ _ _ _ r h => by simp [impl_PairsDigest.l0] at h
  | k + 1 => by
    have ih0 := impl_PairsDigest.mono_l k
    · intro y0 y1 y2 y3
      unfold impl_PairsDigest.l0
      repeat' first
      | (with_reducible exact ih0 _ _ _ _)
      | (with_reducible exact impl_PairDigest.mono _ _ _)
      | (with_reducible exact impl_PairsValid.mono _ _)
      | (with_reducible exact LeO.refl _)
      | (with_reducible exact LeO.none _)
      | (with_reducible refine LeO.ite ?_ ?_)
      | (with_reducible refine LeO.bind ?_ (fun _ => ?_))
      | exact ih0 _ _ _ _
      | exact impl_PairDigest.mono _ _ _
      | exact impl_PairsValid.mono _ _
      | exact LeO.none _
      | refine LeO.ite ?_ ?_
      | refine LeO.bind ?_ (fun _ => ?_)
theorem impl_PairsDigest.mono : ∀ a0 k, LeO (impl_PairsDigest.f k a0) (impl_PairsDigest.f (k + 1) a0) := by
  intro a0 k
  have ih0 := impl_PairsDigest.mono_l k
  unfold impl_PairsDigest.f
  repeat' first
      | (with_reducible exact ih0 _ _ _ _)
      | (with_reducible exact impl_PairDigest.mono _ _ _)
      | (with_reducible exact impl_PairsValid.mono _ _)
      | (with_reducible exact LeO.refl _)
      | (with_reducible exact LeO.none _)
      | (with_reducible refine LeO.ite ?_ ?_)
      | (with_reducible refine LeO.bind ?_ (fun _ => ?_))
      | exact ih0 _ _ _ _
      | exact impl_PairDigest.mono _ _ _
      | exact impl_PairsValid.mono _ _
      | exact LeO.none _
      | refine LeO.ite ?_ ?_
      | refine LeO.bind ?_ (fun _ => ?_)
set_option maxHeartbeats 8000000 in
set_option maxRecDepth 100000 in
theorem impl_PairsDigest.calls (k : Nat) (A0 : Option Addr) (c0 : Nat) (l0 : List (S29)) (r : Int) (w : World) (hr0 : Kd.C k29 w A0 l0.length l0) (hc0 : l0.length ≤ c0) (h : impl_PairsDigest.f k l0 = some r) :
    Calls Try.prog 15 #[.slice A0 l0.length c0] w fun e w' => e = .returned (.int .i64 r) ∧ Below w.heap.size w w' := by
  have hu29 := Try.underlying29
  have HR0 := Aside0.mk hr0
  have HC0 := Aside0.mk hc0
  clear hr0 hc0
  have HB := Aside0.mk (Below.refl w.heap.size w)
  have H : ((impl_PairsValid.f k l0).bind fun t250 => (if t250 = true then (impl_PairsDigest.l0 k 0 l0 (l0.length : Int) 0) else (some (-1)))) = some r := h
  clear h
  replace H := Option.bind_eq_some_iff.mp H
  obtain ⟨t250, A20, H⟩ := H
  replace H : (if t250 = true then (impl_PairsDigest.l0 k 0 l0 (l0.length : Int) 0) else (some (-1))) = some r := H
  have A2 := Aside0.mk A20
  clear A20
  by_cases c3 : t250 = true
  · subst c3
    have H1 : (impl_PairsDigest.l0 k 0 l0 (l0.length : Int) 0) = some r := by rw [if_pos rfl] at H; exact H
    clear H
    have H := H1
    clear H1
    have H' := Aside0.mk H
    clear H
    go_enter Try.func15, Try.ntmps15
    go_wp2_with (first | ((with_reducible refine gate_callee (f := 17) rfl ?_); refine gsl (some 7) rfl Try.func17 #[.slice A0 l0.length c0] rfl ?_; (with_reducible refine (impl_PairsValid.calls k _ _ l0 true _ ?side1 ?side2 A2.out).mono ?_); (case side1 => exact cc HR0.out); (case side2 => exact HC0.out); rintro e w4 ⟨rfl, hb⟩; refine ⟨_, rfl, ?_⟩; replace HB := an0 HB hb; (try clear hb); (try clear hb2); (try clear hk); (try clear hi)))
    go_loopg [3, 11] k (fun kq v3 v11 w' => ∃ (x3_1 : Int) (x11_1 : Int), v3 = .int .i64 x3_1 ∧ v11 = .int .i64 x11_1 ∧ Aside0 (impl_PairsDigest.l0 kq x3_1 l0 (l0.length : Int) x11_1 = some r) ∧ Aside0 (kq ≤ k) ∧ Aside0 (Below w.heap.size w w'))
    case atStart => exact ⟨(0), (0), (by first | rfl | (simp; done) | (simp [*]; done) | (simp [bne_nil_, beq_nil_]; done)), (by first | rfl | (simp; done) | (simp [*]; done) | (simp [bne_nil_, beq_nil_]; done)), H', ⟨Nat.le_refl _⟩, ⟨bp HB.out⟩⟩
    case round =>
      clear H'
      try clear c1
      try clear p2
      try clear c3
      obtain ⟨x3_1, x11_1, rfl, rfl, HA, HK1, HB⟩ := hrel
      cases gk with
      | zero => exact absurd HA.out (by simp [impl_PairsDigest.l0])
      | succ k1 =>
        have H := HA.out
        clear HA
        simp only [impl_PairsDigest.l0] at H
        by_cases c5 : x11_1 < (l0.length : Int)
        · rw [if_pos c5] at H
          have c5b0 : decide (x11_1 < (l0.length : Int)) = true := decide_eq_true c5
          clear c5
          by_cases c6 : 0 ≤ x11_1
          · rw [if_pos c6] at H
            have c6b0 : decide (0 ≤ x11_1) = true := decide_eq_true c6
            clear c6
            by_cases c7 : x11_1 < (l0.length : Int)
            · rw [if_pos c7] at H
              have c7b0 : decide (x11_1 < (l0.length : Int)) = true := decide_eq_true c7
              clear c7
              replace H := Option.bind_eq_some_iff.mp H
              obtain ⟨t253, A80, H⟩ := H
              replace H : (impl_PairsDigest.l0 k1 (wrap64 (x3_1 + t253)) l0 (l0.length : Int) (wrap64 (x11_1 + 1))) = some r := H
              have A8 := Aside0.mk A80
              clear A80
              have H' := Aside0.mk H
              clear H
              have p251 : 0 ≤ (x11_1 : Int) := of_decide_eq_true (by first | (with_reducible assumption) | assumption)
              have q251 : x11_1 < (l0.length : Int) := of_decide_eq_true (by first | (with_reducible assumption) | assumption)
              obtain ⟨ad251, e251, hx251_0, hx251_1⟩ := at_T29 HR0.out x11_1 p251 q251
              cases e251
              replace hx251_0 := hcx HB hx251_0
              replace hx251_1 := hcx HB hx251_1
              replace p251 := eq_true p251
              replace q251 := eq_true q251
              go_wp2_with (first | ((with_reducible refine gate_dst (N := 5) rfl ?_); refine bxe (N := 5) (cs := #[.string (⟨#[]⟩ : ByteArray), .int .i64 0]) (t := 29) ?_; intro gb252 hg w9 hbox hb; have BK252 := Aside0.mk (hbox); have GW252 := an2 HB hg; have GE252 := an2 HB hg; replace HB := an0 HB hb; clear hb hbox hg; obtain ⟨hcz10_0, hcz10_1, hfz10_0, hfz10_1⟩ := cl2 BK252) | ((with_reducible refine gate_callee (f := 19) rfl ?_); refine gsl (some 17) rfl Try.func19 #[.agg #[.string ((rd_T29 l0 x11_1).f0), .int .i64 ((rd_T29 l0 x11_1).f1)]] rfl ?_; (with_reducible refine (impl_PairDigest.calls k1 ((rd_T29 l0 x11_1).f0) ((rd_T29 l0 x11_1).f1) t253 _ A8.out).mono ?_); rintro e w11 ⟨rfl, hb⟩; refine ⟨_, rfl, ?_⟩; have n0_ := Aside0.mk (blk_below (g := gb252) (o := .cells #[.string ((rd_T29 l0 x11_1).f0), .int .i64 ((rd_T29 l0 x11_1).f1)] 29 (0, 0)) (by (with_reducible repeat (first | refine blk_drewN ?_ _ | refine blk_drew ?_ | refine blk_alloc ?_ _)); refine blk_put (cs := #[.string ((rd_T29 l0 x11_1).f0), .int .i64 0]) ?_ 1 _ rfl; (with_reducible repeat (first | refine blk_drewN ?_ _ | refine blk_drew ?_ | refine blk_alloc ?_ _)); refine blk_put (cs := #[.string (⟨#[]⟩ : ByteArray), .int .i64 0]) ?_ 0 _ rfl; (with_reducible repeat (first | refine blk_drewN ?_ _ | refine blk_drew ?_ | refine blk_alloc ?_ _)); exact BK252.out) hb); have n1_ := an0 HB hb; clear BK252; clear HB; have BK252 := n0_; have HB := n1_; clear n0_ n1_; (try clear hb); (try clear hb2); (try clear hk); (try clear hi)))
              go_roundg k1
              case measure => have := HK1.out; omega
              case rel => exact ⟨(wrap64 (x3_1 + t253)), (wrap64 (x11_1 + 1)), (by first | rfl | (simp; done) | (simp [*]; done) | (simp [bne_nil_, beq_nil_]; done)), (by first | rfl | (simp; done) | (simp [*]; done) | (simp [bne_nil_, beq_nil_]; done)), H', ⟨by have := HK1.out; omega⟩, ⟨bp HB.out⟩⟩
            · rw [if_neg c7] at H
              exact absurd H (by simp)
          · rw [if_neg c6] at H
            exact absurd H (by simp)
        · rw [if_neg c5] at H
          have c5b0 : decide (x11_1 < (l0.length : Int)) = false := decide_eq_false c5
          clear c5
          obtain rfl := Option.some.inj H
          go_wp2
          go_ret
          exact ⟨fe, bp HB.out⟩
  · replace c3 := Bool.eq_false_iff.mpr c3
    subst c3
    have H1 : (some (-1)) = some r := by rw [if_neg (show ¬ (false = true) by decide)] at H; exact H
    clear H
    have H := H1
    clear H1
    obtain rfl := Option.some.inj H
    go_enter Try.func15, Try.ntmps15
    go_wp2_with (first | ((with_reducible refine gate_callee (f := 17) rfl ?_); refine gsl (some 7) rfl Try.func17 #[.slice A0 l0.length c0] rfl ?_; (with_reducible refine (impl_PairsValid.calls k _ _ l0 false _ ?side1 ?side2 A2.out).mono ?_); (case side1 => exact cc HR0.out); (case side2 => exact HC0.out); rintro e w12 ⟨rfl, hb⟩; refine ⟨_, rfl, ?_⟩; replace HB := an0 HB hb; (try clear hb); (try clear hb2); (try clear hk); (try clear hi)))
    go_ret
    exact ⟨fe, bp HB.out⟩

/-! ### impl_lowestKey: function 143 -/
def impl_lowestKey.f (a0_0 : ByteArray) (a0_1 : ByteArray) : Option (ByteArray) := if a0_0.toList = ([] : List UInt8) then (some (⟨#[97]⟩ : ByteArray)) else (some a0_0)
set_option maxHeartbeats 8000000 in
set_option maxRecDepth 100000 in
theorem impl_lowestKey.calls (a0_0 : ByteArray) (a0_1 : ByteArray) (r : ByteArray) (w : World) (h : impl_lowestKey.f a0_0 a0_1 = some r) :
    Calls Try.prog 143 #[.agg #[.string a0_0, .string a0_1]] w fun e w' => e = .returned (.string r) ∧ Below w.heap.size w w' := by
  have hu83 := Try.underlying83
  have HB := Aside0.mk (Below.refl w.heap.size w)
  have H : (if a0_0.toList = ([] : List UInt8) then (some (⟨#[97]⟩ : ByteArray)) else (some a0_0)) = some r := h
  clear h
  by_cases c2 : a0_0.toList = ([] : List UInt8)
  · rw [if_pos c2] at H
    have c2b0 : (a0_0.toList == ([] : List UInt8)) = true := beq_iff_eq.mpr c2
    have c2b1 : (a0_0.toList != ([] : List UInt8)) = false := bne_eq_false_iff_eq.mpr c2
    clear c2
    obtain rfl := Option.some.inj H
    go_enter Try.func143, Try.ntmps143
    go_wp2_with (first | ((with_reducible refine gate_dst (N := 1) rfl ?_); refine bxe (N := 1) (cs := #[.string a0_0, .string a0_1]) (t := 83) ?_; intro gb254 hg w3 hbox hb; have BK254 := Aside0.mk (hbox); have GW254 := an2 HB hg; have GE254 := an2 HB hg; replace HB := an0 HB hb; clear hb hbox hg; obtain ⟨hcz4_0, hcz4_1, hfz4_0, hfz4_1⟩ := cl2 BK254))
    go_ret
    exact ⟨fe, bp HB.out⟩
  · rw [if_neg c2] at H
    have c2b0 : (a0_0.toList == ([] : List UInt8)) = false := beq_eq_false_iff_ne.mpr c2
    have c2b1 : (a0_0.toList != ([] : List UInt8)) = true := bne_iff_ne.mpr c2
    obtain rfl := Option.some.inj H
    go_enter Try.func143, Try.ntmps143
    go_wp2_with (first | ((with_reducible refine gate_dst (N := 1) rfl ?_); refine bxe (N := 1) (cs := #[.string a0_0, .string a0_1]) (t := 83) ?_; intro gb254 hg w5 hbox hb; have BK254 := Aside0.mk (hbox); have GW254 := an2 HB hg; have GE254 := an2 HB hg; replace HB := an0 HB hb; clear hb hbox hg; obtain ⟨hcz6_0, hcz6_1, hfz6_0, hfz6_1⟩ := cl2 BK254))
    go_ret
    exact ⟨fe, bp HB.out⟩

/-! ### impl_IntervalValid: function 106 -/
def impl_IntervalValid.f (k : Nat) (a0_0 : ByteArray) (a0_1 : ByteArray) : Option (Bool) := if a0_0.toList = ([] : List UInt8) then (if a0_1.toList = ([] : List UInt8) then (some true) else ((impl_KeyValid.f k a0_1).bind fun t256 => (if t256 = true then ((impl_lowestKey.f a0_0 a0_1).bind fun t257 => (some (Op.bytesLess t257.toList a0_1.toList))) else (some false)))) else ((impl_KeyValid.f k a0_0).bind fun t258 => (if t258 = true then (if a0_1.toList = ([] : List UInt8) then (some true) else ((impl_KeyValid.f k a0_1).bind fun t259 => (if t259 = true then ((impl_lowestKey.f a0_0 a0_1).bind fun t260 => (some (Op.bytesLess t260.toList a0_1.toList))) else (some false)))) else (some false)))
theorem impl_IntervalValid.mono : ∀ a0 a1 k, LeO (impl_IntervalValid.f k a0 a1) (impl_IntervalValid.f (k + 1) a0 a1) := by
  intro a0 a1 k
  unfold impl_IntervalValid.f
  repeat' first
      | (with_reducible exact impl_KeyValid.mono _ _)
      | (with_reducible exact LeO.refl _)
      | (with_reducible exact LeO.none _)
      | (with_reducible refine LeO.ite ?_ ?_)
      | (with_reducible refine LeO.bind ?_ (fun _ => ?_))
      | exact impl_KeyValid.mono _ _
      | exact LeO.none _
      | refine LeO.ite ?_ ?_
      | refine LeO.bind ?_ (fun _ => ?_)
def impl_IntervalValid.T3 : Bool × List (List Nat × List Nat) := (true, [([], []), ([0], [0]), ([1], [1]), ([2], [2]), ([3], [3]), ([4, 3, 3], [3, 4]), ([3], [3]), ([6, 3], [3, 6]), ([5, 7, 3], [3, 5, 7]), ([3, 8], [3, 8]), ([9, 5, 0, 1, 2, 3, 4, 5, 6, 7, 8, 9], [9])])
def impl_IntervalValid.B3 : List Nat := [0, 1, 3, 7, 15, 31, 15, 79, 255, 511, 1023]
theorem impl_IntervalValid.tab3 : rtab .any (opsOf Try.f106 3) = impl_IntervalValid.T3 := by kernel_rfl
theorem impl_IntervalValid.bits3 : waitsOk impl_IntervalValid.T3.2 impl_IntervalValid.B3 = true := by kernel_rfl
set_option maxHeartbeats 8000000 in
set_option maxRecDepth 100000 in
theorem impl_IntervalValid.calls (k : Nat) (a0_0 : ByteArray) (a0_1 : ByteArray) (r : Bool) (w : World) (h : impl_IntervalValid.f k a0_0 a0_1 = some r) :
    Calls Try.prog 106 #[.agg #[.string a0_0, .string a0_1]] w fun e w' => e = .returned (.bool r) ∧ Below w.heap.size w w' := by
  have hu83 := Try.underlying83
  have HB := Aside0.mk (Below.refl w.heap.size w)
  have H : (if a0_0.toList = ([] : List UInt8) then (if a0_1.toList = ([] : List UInt8) then (some true) else ((impl_KeyValid.f k a0_1).bind fun t256 => (if t256 = true then ((impl_lowestKey.f a0_0 a0_1).bind fun t257 => (some (Op.bytesLess t257.toList a0_1.toList))) else (some false)))) else ((impl_KeyValid.f k a0_0).bind fun t258 => (if t258 = true then (if a0_1.toList = ([] : List UInt8) then (some true) else ((impl_KeyValid.f k a0_1).bind fun t259 => (if t259 = true then ((impl_lowestKey.f a0_0 a0_1).bind fun t260 => (some (Op.bytesLess t260.toList a0_1.toList))) else (some false)))) else (some false)))) = some r := h
  clear h
  by_cases c2 : a0_0.toList = ([] : List UInt8)
  · rw [if_pos c2] at H
    have c2b0 : (a0_0.toList == ([] : List UInt8)) = true := beq_iff_eq.mpr c2
    have c2b1 : (a0_0.toList != ([] : List UInt8)) = false := bne_eq_false_iff_eq.mpr c2
    clear c2
    by_cases c3 : a0_1.toList = ([] : List UInt8)
    · rw [if_pos c3] at H
      have c3b0 : (a0_1.toList == ([] : List UInt8)) = true := beq_iff_eq.mpr c3
      have c3b1 : (a0_1.toList != ([] : List UInt8)) = false := bne_eq_false_iff_eq.mpr c3
      clear c3
      obtain rfl := Option.some.inj H
      go_enter Try.func106, Try.ntmps106
      try go_wp2_with (first | ((with_reducible refine gate_dst (N := 1) rfl ?_); refine bxe (N := 1) (cs := #[.string a0_0, .string a0_1]) (t := 83) ?_; intro gb255 hg w4 hbox hb; have BK255 := Aside0.mk (hbox); have GW255 := an2 HB hg; have GE255 := an2 HB hg; replace HB := an0 HB hb; clear hb hbox hg; obtain ⟨hcz5_0, hcz5_1, hfz5_0, hfz5_1⟩ := cl2 BK255))
      have n0_ := Aside0.mk (blk_drew BK255.out)
      have n1_ := Aside0.mk (below_drew1 HB.out)
      clear BK255
      clear HB
      have BK255 := n0_
      have HB := n1_
      clear n0_ n1_
      refine start_ (n := 11) (S := fun w' => w'.cell? ⟨gb255, 0, none⟩ = some (.string a0_0) ∧ w'.cell? ⟨gb255, 1, none⟩ = some (.string a0_1)) (ds := []) #[false, false, false, false, false, false, false, false, false, false, false] (by kernel_rfl) rfl rfl ⟨(blk_cell BK255.out 0).trans rfl, (blk_cell BK255.out 1).trans rfl⟩ (fun hHeld => ?_); refine with_tabW impl_IntervalValid.tab3 impl_IntervalValid.bits3 (fun HT_ HW_ => ?_)
      generalize w4.drew = w6 at BK255 HB hHeld ⊢
      refine pur (i := 0) (N := some 23) #[true, false, false, false, false, false, false, false, false, false, false] rfl rfl HT_.out ?_
      refine take_ (i := 1) (N := some 24) (v := ?_) (a' := ?_) #[true, true, false, false, false, false, false, false, false, false, false] rfl rfl (take_ofW HT_.out HW_.out (by kernel_rfl)) (fun _ _ _ h => h) (Or.inl ⟨by rfl, ?_⟩) hHeld ?_ ?_
      rotate_left
      · rintro w' ⟨s0, s1⟩
        go_simp
        with_reducible rfl
      rotate_left; focus (simp only [Act.put, List.setIfInBounds_toArray, List.set_cons_zero, List.set_cons_succ, i64_w, i32_w]; rfl)
      refine pur (i := 2) (N := some 25) #[true, true, true, false, false, false, false, false, false, false, false] rfl rfl HT_.out ?_
      refine pur (i := 3) (N := some 26) #[true, true, true, true, false, false, false, false, false, false, false] rfl rfl HT_.out ?_
      refine puo (i := 4) (N := some 27) #[true, true, true, true, true, false, false, false, false, false, false] rfl rfl HT_.out ?_
      refine puo (i := 5) (N := some 28) #[true, true, true, true, true, true, false, false, false, false, false] rfl rfl HT_.out ?_
      refine puo (i := 6) (N := some 29) #[true, true, true, true, true, true, true, false, false, false, false] rfl rfl HT_.out ?_
      refine puo (i := 7) (N := some 30) #[true, true, true, true, true, true, true, true, false, false, false] rfl rfl HT_.out ?_
      refine puo (i := 8) (N := some 31) #[true, true, true, true, true, true, true, true, true, false, false] rfl rfl HT_.out ?_
      refine pur (i := 9) (N := some 32) #[true, true, true, true, true, true, true, true, true, true, false] rfl rfl HT_.out ?_
      refine pur (i := 10) (N := some 2) #[true, true, true, true, true, true, true, true, true, true, true] rfl rfl HT_.out ?_
      refine done_ (done_of HT_.out (by kernel_rfl)) ?_
      try go_wp2
      go_ret
      exact ⟨fe, bp HB.out⟩
    · rw [if_neg c3] at H
      have c3b0 : (a0_1.toList == ([] : List UInt8)) = false := beq_eq_false_iff_ne.mpr c3
      have c3b1 : (a0_1.toList != ([] : List UInt8)) = true := bne_iff_ne.mpr c3
      replace H := Option.bind_eq_some_iff.mp H
      obtain ⟨t256, A70, H⟩ := H
      replace H : (if t256 = true then ((impl_lowestKey.f a0_0 a0_1).bind fun t257 => (some (Op.bytesLess t257.toList a0_1.toList))) else (some false)) = some r := H
      have A7 := Aside0.mk A70
      clear A70
      by_cases c8 : t256 = true
      · subst c8
        have H1 : ((impl_lowestKey.f a0_0 a0_1).bind fun t257 => (some (Op.bytesLess t257.toList a0_1.toList))) = some r := by rw [if_pos rfl] at H; exact H
        clear H
        have H := H1
        clear H1
        replace H := Option.bind_eq_some_iff.mp H
        obtain ⟨t257, A90, H⟩ := H
        replace H : (some (Op.bytesLess t257.toList a0_1.toList)) = some r := H
        have A9 := Aside0.mk A90
        clear A90
        obtain rfl := Option.some.inj H
        go_enter Try.func106, Try.ntmps106
        try go_wp2_with (first | ((with_reducible refine gate_dst (N := 1) rfl ?_); refine bxe (N := 1) (cs := #[.string a0_0, .string a0_1]) (t := 83) ?_; intro gb255 hg w10 hbox hb; have BK255 := Aside0.mk (hbox); have GW255 := an2 HB hg; have GE255 := an2 HB hg; replace HB := an0 HB hb; clear hb hbox hg; obtain ⟨hcz11_0, hcz11_1, hfz11_0, hfz11_1⟩ := cl2 BK255) | (go_at_call 74; (with_reducible refine (impl_KeyValid.calls k a0_1 true _ A7.out).mono ?_); rintro e w' ⟨rfl, ⟨nd, rfl⟩⟩))
        (try (rw [drewN_self w10]; generalize hq_ : World.drewN w10 _ = w10; have n0_ : Aside0 (w10.heap[gb255]? = some (.cells #[.string a0_0, .string a0_1] 83 (0, 0))) := ⟨by rw [← hq_]; exact (kb BK255.out)⟩; have n1_ : Aside0 (Below w.heap.size w w10) := ⟨by rw [← hq_]; exact (bp HB.out)⟩; clear BK255 HB hq_; have BK255 := n0_; have HB := n1_; clear n0_ n1_))
        have n0_ := Aside0.mk (blk_drew BK255.out)
        have n1_ := Aside0.mk (below_drew1 HB.out)
        clear BK255
        clear HB
        have BK255 := n0_
        have HB := n1_
        clear n0_ n1_
        refine start_ (n := 11) (S := fun w' => w'.cell? ⟨gb255, 0, none⟩ = some (.string a0_0) ∧ w'.cell? ⟨gb255, 1, none⟩ = some (.string a0_1)) (ds := []) #[false, false, false, false, false, false, false, false, false, false, false] (by kernel_rfl) rfl rfl ⟨(blk_cell BK255.out 0).trans rfl, (blk_cell BK255.out 1).trans rfl⟩ (fun hHeld => ?_); refine with_tabW impl_IntervalValid.tab3 impl_IntervalValid.bits3 (fun HT_ HW_ => ?_)
        generalize w10.drew = w12 at BK255 HB hHeld ⊢
        refine pur (i := 0) (N := some 23) #[true, false, false, false, false, false, false, false, false, false, false] rfl rfl HT_.out ?_
        refine take_ (i := 1) (N := some 24) (v := ?_) (a' := ?_) #[true, true, false, false, false, false, false, false, false, false, false] rfl rfl (take_ofW HT_.out HW_.out (by kernel_rfl)) (fun _ _ _ h => h) (Or.inl ⟨by rfl, ?_⟩) hHeld ?_ ?_
        rotate_left
        · rintro w' ⟨s0, s1⟩
          go_simp
          with_reducible rfl
        rotate_left; focus (simp only [Act.put, List.setIfInBounds_toArray, List.set_cons_zero, List.set_cons_succ, i64_w, i32_w]; rfl)
        refine pur (i := 2) (N := some 25) #[true, true, true, false, false, false, false, false, false, false, false] rfl rfl HT_.out ?_
        refine pur (i := 3) (N := some 26) #[true, true, true, true, false, false, false, false, false, false, false] rfl rfl HT_.out ?_
        refine pur (i := 6) (N := some 29) #[true, true, true, true, false, false, true, false, false, false, false] rfl rfl HT_.out ?_
        refine take_ (i := 4) (N := some 27) (v := ?_) (a' := ?_) #[true, true, true, true, true, false, true, false, false, false, false] rfl rfl (take_ofW HT_.out HW_.out (by kernel_rfl)) (fun _ _ _ h => h) (Or.inl ⟨by rfl, ?_⟩) hHeld ?_ ?_
        rotate_left
        · rintro w' ⟨s0, s1⟩
          go_simp
          with_reducible rfl
        rotate_left; focus (simp only [Act.put, List.setIfInBounds_toArray, List.set_cons_zero, List.set_cons_succ, i64_w, i32_w]; rfl)
        refine take_ (i := 7) (N := some 30) (v := ?_) (a' := ?_) #[true, true, true, true, true, false, true, true, false, false, false] rfl rfl (take_ofW HT_.out HW_.out (by kernel_rfl)) (fun _ _ _ h => h) (Or.inl ⟨by rfl, ?_⟩) hHeld ?_ ?_
        rotate_left
        · rintro w' ⟨s0, s1⟩
          go_simp
          with_reducible rfl
        rotate_left; focus (simp only [Act.put, List.setIfInBounds_toArray, List.set_cons_zero, List.set_cons_succ, i64_w, i32_w]; rfl)
        refine one_ (i := 5) (N := some 28) #[true, true, true, true, true, true, true, true, false, false, false] rfl rfl (one_of HT_.out (by kernel_rfl)) (by decide) (fun K hK => ?_)
        refine goes_ Try.func143 (by kernel_rfl) rfl #[.agg #[.string a0_0, .string a0_1]] (by rfl) rfl rfl (by (try simp only [List.map_toArray, List.map_cons, List.map_nil]); first | done | rfl | (simp only [List.length_drop, List.length_take]; rfl)) ?_
        with_reducible refine (impl_lowestKey.calls a0_0 a0_1 t257 _ A9.out).mono ?_
        rintro e w13 ⟨rfl, hb⟩
        refine ⟨_, rfl, ?_⟩
        have n0_ := an1 BK255 hb
        have n1_ := an0 HB hb
        clear BK255
        clear HB
        have BK255 := n0_
        have HB := n1_
        clear n0_ n1_
        (try clear hb)
        (try clear hb2)
        (try clear hk)
        (try clear hi)
        refine hK.out _ _ ⟨(blk_cell BK255.out 0).trans rfl, (blk_cell BK255.out 1).trans rfl⟩ (fun hHeld => ?_)
        clear hK K
        refine norm_ (a' := ?_) ?_ ?_
        rotate_left
        · show Act.put _ (some 28) _ = _
          simp only [Act.put, List.setIfInBounds_toArray, List.set_cons_zero, List.set_cons_succ, i64_w, i32_w]
          rfl
        refine pur (i := 8) (N := some 31) #[true, true, true, true, true, true, true, true, true, false, false] rfl rfl HT_.out ?_
        refine pur (i := 9) (N := some 32) #[true, true, true, true, true, true, true, true, true, true, false] rfl rfl HT_.out ?_
        refine pur (i := 10) (N := some 2) #[true, true, true, true, true, true, true, true, true, true, true] rfl rfl HT_.out ?_
        refine done_ (done_of HT_.out (by kernel_rfl)) ?_
        try go_wp2
        go_ret
        exact ⟨fe, bp HB.out⟩
      · replace c8 := Bool.eq_false_iff.mpr c8
        subst c8
        have H1 : (some false) = some r := by rw [if_neg (show ¬ (false = true) by decide)] at H; exact H
        clear H
        have H := H1
        clear H1
        obtain rfl := Option.some.inj H
        go_enter Try.func106, Try.ntmps106
        go_wp2_with (first | ((with_reducible refine gate_dst (N := 1) rfl ?_); refine bxe (N := 1) (cs := #[.string a0_0, .string a0_1]) (t := 83) ?_; intro gb255 hg w14 hbox hb; have BK255 := Aside0.mk (hbox); have GW255 := an2 HB hg; have GE255 := an2 HB hg; replace HB := an0 HB hb; clear hb hbox hg; obtain ⟨hcz15_0, hcz15_1, hfz15_0, hfz15_1⟩ := cl2 BK255) | (go_at_call 74; (with_reducible refine (impl_KeyValid.calls k a0_1 false _ A7.out).mono ?_); rintro e w' ⟨rfl, ⟨nd, rfl⟩⟩))
        go_ret
        exact ⟨fe, bp HB.out⟩
  · rw [if_neg c2] at H
    have c2b0 : (a0_0.toList == ([] : List UInt8)) = false := beq_eq_false_iff_ne.mpr c2
    have c2b1 : (a0_0.toList != ([] : List UInt8)) = true := bne_iff_ne.mpr c2
    replace H := Option.bind_eq_some_iff.mp H
    obtain ⟨t258, A160, H⟩ := H
    replace H : (if t258 = true then (if a0_1.toList = ([] : List UInt8) then (some true) else ((impl_KeyValid.f k a0_1).bind fun t259 => (if t259 = true then ((impl_lowestKey.f a0_0 a0_1).bind fun t260 => (some (Op.bytesLess t260.toList a0_1.toList))) else (some false)))) else (some false)) = some r := H
    have A16 := Aside0.mk A160
    clear A160
    by_cases c17 : t258 = true
    · subst c17
      have H1 : (if a0_1.toList = ([] : List UInt8) then (some true) else ((impl_KeyValid.f k a0_1).bind fun t259 => (if t259 = true then ((impl_lowestKey.f a0_0 a0_1).bind fun t260 => (some (Op.bytesLess t260.toList a0_1.toList))) else (some false)))) = some r := by rw [if_pos rfl] at H; exact H
      clear H
      have H := H1
      clear H1
      by_cases c18 : a0_1.toList = ([] : List UInt8)
      · rw [if_pos c18] at H
        have c18b0 : (a0_1.toList == ([] : List UInt8)) = true := beq_iff_eq.mpr c18
        have c18b1 : (a0_1.toList != ([] : List UInt8)) = false := bne_eq_false_iff_eq.mpr c18
        clear c18
        obtain rfl := Option.some.inj H
        go_enter Try.func106, Try.ntmps106
        try go_wp2_with (first | ((with_reducible refine gate_dst (N := 1) rfl ?_); refine bxe (N := 1) (cs := #[.string a0_0, .string a0_1]) (t := 83) ?_; intro gb255 hg w19 hbox hb; have BK255 := Aside0.mk (hbox); have GW255 := an2 HB hg; have GE255 := an2 HB hg; replace HB := an0 HB hb; clear hb hbox hg; obtain ⟨hcz20_0, hcz20_1, hfz20_0, hfz20_1⟩ := cl2 BK255) | (go_at_call 74; (with_reducible refine (impl_KeyValid.calls k a0_0 true _ A16.out).mono ?_); rintro e w' ⟨rfl, ⟨nd, rfl⟩⟩))
        (try (rw [drewN_self w19]; generalize hq_ : World.drewN w19 _ = w19; have n0_ : Aside0 (w19.heap[gb255]? = some (.cells #[.string a0_0, .string a0_1] 83 (0, 0))) := ⟨by rw [← hq_]; exact (kb BK255.out)⟩; have n1_ : Aside0 (Below w.heap.size w w19) := ⟨by rw [← hq_]; exact (bp HB.out)⟩; clear BK255 HB hq_; have BK255 := n0_; have HB := n1_; clear n0_ n1_))
        have n0_ := Aside0.mk (blk_drew BK255.out)
        have n1_ := Aside0.mk (below_drew1 HB.out)
        clear BK255
        clear HB
        have BK255 := n0_
        have HB := n1_
        clear n0_ n1_
        refine start_ (n := 11) (S := fun w' => w'.cell? ⟨gb255, 0, none⟩ = some (.string a0_0) ∧ w'.cell? ⟨gb255, 1, none⟩ = some (.string a0_1)) (ds := []) #[false, false, false, false, false, false, false, false, false, false, false] (by kernel_rfl) rfl rfl ⟨(blk_cell BK255.out 0).trans rfl, (blk_cell BK255.out 1).trans rfl⟩ (fun hHeld => ?_); refine with_tabW impl_IntervalValid.tab3 impl_IntervalValid.bits3 (fun HT_ HW_ => ?_)
        generalize w19.drew = w21 at BK255 HB hHeld ⊢
        refine pur (i := 0) (N := some 23) #[true, false, false, false, false, false, false, false, false, false, false] rfl rfl HT_.out ?_
        refine take_ (i := 1) (N := some 24) (v := ?_) (a' := ?_) #[true, true, false, false, false, false, false, false, false, false, false] rfl rfl (take_ofW HT_.out HW_.out (by kernel_rfl)) (fun _ _ _ h => h) (Or.inl ⟨by rfl, ?_⟩) hHeld ?_ ?_
        rotate_left
        · rintro w' ⟨s0, s1⟩
          go_simp
          with_reducible rfl
        rotate_left; focus (simp only [Act.put, List.setIfInBounds_toArray, List.set_cons_zero, List.set_cons_succ, i64_w, i32_w]; rfl)
        refine pur (i := 2) (N := some 25) #[true, true, true, false, false, false, false, false, false, false, false] rfl rfl HT_.out ?_
        refine pur (i := 3) (N := some 26) #[true, true, true, true, false, false, false, false, false, false, false] rfl rfl HT_.out ?_
        refine puo (i := 4) (N := some 27) #[true, true, true, true, true, false, false, false, false, false, false] rfl rfl HT_.out ?_
        refine puo (i := 5) (N := some 28) #[true, true, true, true, true, true, false, false, false, false, false] rfl rfl HT_.out ?_
        refine puo (i := 6) (N := some 29) #[true, true, true, true, true, true, true, false, false, false, false] rfl rfl HT_.out ?_
        refine puo (i := 7) (N := some 30) #[true, true, true, true, true, true, true, true, false, false, false] rfl rfl HT_.out ?_
        refine puo (i := 8) (N := some 31) #[true, true, true, true, true, true, true, true, true, false, false] rfl rfl HT_.out ?_
        refine pur (i := 9) (N := some 32) #[true, true, true, true, true, true, true, true, true, true, false] rfl rfl HT_.out ?_
        refine pur (i := 10) (N := some 2) #[true, true, true, true, true, true, true, true, true, true, true] rfl rfl HT_.out ?_
        refine done_ (done_of HT_.out (by kernel_rfl)) ?_
        try go_wp2
        go_ret
        exact ⟨fe, bp HB.out⟩
      · rw [if_neg c18] at H
        have c18b0 : (a0_1.toList == ([] : List UInt8)) = false := beq_eq_false_iff_ne.mpr c18
        have c18b1 : (a0_1.toList != ([] : List UInt8)) = true := bne_iff_ne.mpr c18
        replace H := Option.bind_eq_some_iff.mp H
        obtain ⟨t259, A220, H⟩ := H
        replace H : (if t259 = true then ((impl_lowestKey.f a0_0 a0_1).bind fun t260 => (some (Op.bytesLess t260.toList a0_1.toList))) else (some false)) = some r := H
        have A22 := Aside0.mk A220
        clear A220
        by_cases c23 : t259 = true
        · subst c23
          have H1 : ((impl_lowestKey.f a0_0 a0_1).bind fun t260 => (some (Op.bytesLess t260.toList a0_1.toList))) = some r := by rw [if_pos rfl] at H; exact H
          clear H
          have H := H1
          clear H1
          replace H := Option.bind_eq_some_iff.mp H
          obtain ⟨t260, A240, H⟩ := H
          replace H : (some (Op.bytesLess t260.toList a0_1.toList)) = some r := H
          have A24 := Aside0.mk A240
          clear A240
          obtain rfl := Option.some.inj H
          go_enter Try.func106, Try.ntmps106
          try go_wp2_with (first | ((with_reducible refine gate_dst (N := 1) rfl ?_); refine bxe (N := 1) (cs := #[.string a0_0, .string a0_1]) (t := 83) ?_; intro gb255 hg w25 hbox hb; have BK255 := Aside0.mk (hbox); have GW255 := an2 HB hg; have GE255 := an2 HB hg; replace HB := an0 HB hb; clear hb hbox hg; obtain ⟨hcz26_0, hcz26_1, hfz26_0, hfz26_1⟩ := cl2 BK255) | (go_at_call 74; (with_reducible refine (impl_KeyValid.calls k a0_0 true _ A16.out).mono ?_); rintro e w' ⟨rfl, ⟨nd, rfl⟩⟩) | (go_at_call 74; (with_reducible refine (impl_KeyValid.calls k a0_1 true _ A22.out).mono ?_); rintro e w' ⟨rfl, ⟨nd, rfl⟩⟩))
          (try (rw [drewN_self w25]; generalize hq_ : World.drewN w25 _ = w25; have n0_ : Aside0 (w25.heap[gb255]? = some (.cells #[.string a0_0, .string a0_1] 83 (0, 0))) := ⟨by rw [← hq_]; exact (kb BK255.out)⟩; have n1_ : Aside0 (Below w.heap.size w w25) := ⟨by rw [← hq_]; exact (bp HB.out)⟩; clear BK255 HB hq_; have BK255 := n0_; have HB := n1_; clear n0_ n1_))
          have n0_ := Aside0.mk (blk_drew BK255.out)
          have n1_ := Aside0.mk (below_drew1 HB.out)
          clear BK255
          clear HB
          have BK255 := n0_
          have HB := n1_
          clear n0_ n1_
          refine start_ (n := 11) (S := fun w' => w'.cell? ⟨gb255, 0, none⟩ = some (.string a0_0) ∧ w'.cell? ⟨gb255, 1, none⟩ = some (.string a0_1)) (ds := []) #[false, false, false, false, false, false, false, false, false, false, false] (by kernel_rfl) rfl rfl ⟨(blk_cell BK255.out 0).trans rfl, (blk_cell BK255.out 1).trans rfl⟩ (fun hHeld => ?_); refine with_tabW impl_IntervalValid.tab3 impl_IntervalValid.bits3 (fun HT_ HW_ => ?_)
          generalize w25.drew = w27 at BK255 HB hHeld ⊢
          refine pur (i := 0) (N := some 23) #[true, false, false, false, false, false, false, false, false, false, false] rfl rfl HT_.out ?_
          refine take_ (i := 1) (N := some 24) (v := ?_) (a' := ?_) #[true, true, false, false, false, false, false, false, false, false, false] rfl rfl (take_ofW HT_.out HW_.out (by kernel_rfl)) (fun _ _ _ h => h) (Or.inl ⟨by rfl, ?_⟩) hHeld ?_ ?_
          rotate_left
          · rintro w' ⟨s0, s1⟩
            go_simp
            with_reducible rfl
          rotate_left; focus (simp only [Act.put, List.setIfInBounds_toArray, List.set_cons_zero, List.set_cons_succ, i64_w, i32_w]; rfl)
          refine pur (i := 2) (N := some 25) #[true, true, true, false, false, false, false, false, false, false, false] rfl rfl HT_.out ?_
          refine pur (i := 3) (N := some 26) #[true, true, true, true, false, false, false, false, false, false, false] rfl rfl HT_.out ?_
          refine pur (i := 6) (N := some 29) #[true, true, true, true, false, false, true, false, false, false, false] rfl rfl HT_.out ?_
          refine take_ (i := 4) (N := some 27) (v := ?_) (a' := ?_) #[true, true, true, true, true, false, true, false, false, false, false] rfl rfl (take_ofW HT_.out HW_.out (by kernel_rfl)) (fun _ _ _ h => h) (Or.inl ⟨by rfl, ?_⟩) hHeld ?_ ?_
          rotate_left
          · rintro w' ⟨s0, s1⟩
            go_simp
            with_reducible rfl
          rotate_left; focus (simp only [Act.put, List.setIfInBounds_toArray, List.set_cons_zero, List.set_cons_succ, i64_w, i32_w]; rfl)
          refine take_ (i := 7) (N := some 30) (v := ?_) (a' := ?_) #[true, true, true, true, true, false, true, true, false, false, false] rfl rfl (take_ofW HT_.out HW_.out (by kernel_rfl)) (fun _ _ _ h => h) (Or.inl ⟨by rfl, ?_⟩) hHeld ?_ ?_
          rotate_left
          · rintro w' ⟨s0, s1⟩
            go_simp
            with_reducible rfl
          rotate_left; focus (simp only [Act.put, List.setIfInBounds_toArray, List.set_cons_zero, List.set_cons_succ, i64_w, i32_w]; rfl)
          refine one_ (i := 5) (N := some 28) #[true, true, true, true, true, true, true, true, false, false, false] rfl rfl (one_of HT_.out (by kernel_rfl)) (by decide) (fun K hK => ?_)
          refine goes_ Try.func143 (by kernel_rfl) rfl #[.agg #[.string a0_0, .string a0_1]] (by rfl) rfl rfl (by (try simp only [List.map_toArray, List.map_cons, List.map_nil]); first | done | rfl | (simp only [List.length_drop, List.length_take]; rfl)) ?_
          with_reducible refine (impl_lowestKey.calls a0_0 a0_1 t260 _ A24.out).mono ?_
          rintro e w28 ⟨rfl, hb⟩
          refine ⟨_, rfl, ?_⟩
          have n0_ := an1 BK255 hb
          have n1_ := an0 HB hb
          clear BK255
          clear HB
          have BK255 := n0_
          have HB := n1_
          clear n0_ n1_
          (try clear hb)
          (try clear hb2)
          (try clear hk)
          (try clear hi)
          refine hK.out _ _ ⟨(blk_cell BK255.out 0).trans rfl, (blk_cell BK255.out 1).trans rfl⟩ (fun hHeld => ?_)
          clear hK K
          refine norm_ (a' := ?_) ?_ ?_
          rotate_left
          · show Act.put _ (some 28) _ = _
            simp only [Act.put, List.setIfInBounds_toArray, List.set_cons_zero, List.set_cons_succ, i64_w, i32_w]
            rfl
          refine pur (i := 8) (N := some 31) #[true, true, true, true, true, true, true, true, true, false, false] rfl rfl HT_.out ?_
          refine pur (i := 9) (N := some 32) #[true, true, true, true, true, true, true, true, true, true, false] rfl rfl HT_.out ?_
          refine pur (i := 10) (N := some 2) #[true, true, true, true, true, true, true, true, true, true, true] rfl rfl HT_.out ?_
          refine done_ (done_of HT_.out (by kernel_rfl)) ?_
          try go_wp2
          go_ret
          exact ⟨fe, bp HB.out⟩
        · replace c23 := Bool.eq_false_iff.mpr c23
          subst c23
          have H1 : (some false) = some r := by rw [if_neg (show ¬ (false = true) by decide)] at H; exact H
          clear H
          have H := H1
          clear H1
          obtain rfl := Option.some.inj H
          go_enter Try.func106, Try.ntmps106
          go_wp2_with (first | ((with_reducible refine gate_dst (N := 1) rfl ?_); refine bxe (N := 1) (cs := #[.string a0_0, .string a0_1]) (t := 83) ?_; intro gb255 hg w29 hbox hb; have BK255 := Aside0.mk (hbox); have GW255 := an2 HB hg; have GE255 := an2 HB hg; replace HB := an0 HB hb; clear hb hbox hg; obtain ⟨hcz30_0, hcz30_1, hfz30_0, hfz30_1⟩ := cl2 BK255) | (go_at_call 74; (with_reducible refine (impl_KeyValid.calls k a0_0 true _ A16.out).mono ?_); rintro e w' ⟨rfl, ⟨nd, rfl⟩⟩) | (go_at_call 74; (with_reducible refine (impl_KeyValid.calls k a0_1 false _ A22.out).mono ?_); rintro e w' ⟨rfl, ⟨nd, rfl⟩⟩))
          go_ret
          exact ⟨fe, bp HB.out⟩
    · replace c17 := Bool.eq_false_iff.mpr c17
      subst c17
      have H1 : (some false) = some r := by rw [if_neg (show ¬ (false = true) by decide)] at H; exact H
      clear H
      have H := H1
      clear H1
      obtain rfl := Option.some.inj H
      go_enter Try.func106, Try.ntmps106
      go_wp2_with (first | ((with_reducible refine gate_dst (N := 1) rfl ?_); refine bxe (N := 1) (cs := #[.string a0_0, .string a0_1]) (t := 83) ?_; intro gb255 hg w31 hbox hb; have BK255 := Aside0.mk (hbox); have GW255 := an2 HB hg; have GE255 := an2 HB hg; replace HB := an0 HB hb; clear hb hbox hg; obtain ⟨hcz32_0, hcz32_1, hfz32_0, hfz32_1⟩ := cl2 BK255) | (go_at_call 74; (with_reducible refine (impl_KeyValid.calls k a0_0 false _ A16.out).mono ?_); rintro e w' ⟨rfl, ⟨nd, rfl⟩⟩))
      go_ret
      exact ⟨fe, bp HB.out⟩

end Go.Proofs.Ytfeeifefmenlmaa.PFnExactDiffParts
