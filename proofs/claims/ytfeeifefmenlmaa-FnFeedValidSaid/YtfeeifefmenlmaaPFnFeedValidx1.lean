-- Written by a program of this session, in the manner of the kit's print (wip/pp.py): functions and their contracts.
import Derived.Test.YtfeeifefmenlmaaPFnFeedValidx0
namespace Go.Proofs.Ytfeeifefmenlmaa.PFnFeedValid
open Go.RowKit Go.Proofs.YtfeeifefmenlmaaW.PrintWords Go.Proofs.YtfeeifefmenlmaaW.PrintLast Go.Proofs.YtfeeifefmenlmaaW.PrintMore
attribute [local go_sem] binOp_leq_str binOp_gtr_str binOp_geq_str max2_int min2_int max_two min_two max_three min_three max_four min_four Instr.field asAgg   -- for this text's walks alone
set_option linter.unusedVariables false
set_option linter.unusedSimpArgs false

/-! ### impl_lettersOnly: function 127 -/
def impl_lettersOnly.f : Nat → ByteArray → Option (Bool)
  | 0, _ => none
  | k + 1, a0 => if a0.toList = ([] : List UInt8) then (some true) else (if 0 < (a0.size : Int) then (if (bt a0 0) ≥ 97 then (if (bt a0 0) ≤ 122 then (if 1 ≤ (a0.size : Int) then ((impl_lettersOnly.f k (a0.extract 1 a0.size)).bind fun t101 => (some t101)) else (none)) else (some false)) else (some false)) else (none))
theorem impl_lettersOnly.mono_l : ∀ k, (∀ y0, LeO (impl_lettersOnly.f k y0) (impl_lettersOnly.f (k + 1) y0))
  | 0 => fun _ r h => by simp [impl_lettersOnly.f] at h
  | k + 1 => by
    have ih0 := impl_lettersOnly.mono_l k
    · intro y0
      unfold impl_lettersOnly.f
      repeat' with_reducible first | exact ih0 _ | exact LeO.refl _ | exact LeO.none _ | refine LeO.ite ?_ ?_ | refine LeO.bind ?_ (fun _ => ?_)
theorem impl_lettersOnly.mono : ∀ a0 k, LeO (impl_lettersOnly.f k a0) (impl_lettersOnly.f (k + 1) a0) := by
 intro a0 k; have ih0 := impl_lettersOnly.mono_l k; exact ih0 a0
set_option maxHeartbeats 8000000 in
set_option maxRecDepth 100000 in
theorem impl_lettersOnly.calls (k : Nat) : ∀ (a0 : ByteArray) (r : Bool) (w : World) (h : impl_lettersOnly.f k a0 = some r),
    Calls Try.prog 127 #[.string a0] w fun e w' => e = .returned (.bool r) ∧ Drawn0 w w' := by
 induction k using Nat.strongRecOn with
 | _ k ih =>
 intro a0 r w h
 cases k with
 | zero => exact absurd h (by simp [impl_lettersOnly.f])
 | succ k =>
 simp only [impl_lettersOnly.f] at h; have H : (if a0.toList = ([] : List UInt8) then (some true) else (if 0 < (a0.size : Int) then (if (bt a0 0) ≥ 97 then (if (bt a0 0) ≤ 122 then (if 1 ≤ (a0.size : Int) then ((impl_lettersOnly.f k (a0.extract 1 a0.size)).bind fun t101 => (some t101)) else (none)) else (some false)) else (some false)) else (none))) = some r := h; clear h; by_cases c2 : a0.toList = ([] : List UInt8)
 ·rw [if_pos c2] at H; have c2b0 : (a0.toList == ([] : List UInt8)) = true := beq_iff_eq.mpr c2; have c2b1 : (a0.toList != ([] : List UInt8)) = false := bne_eq_false_iff_eq.mpr c2; clear c2; obtain rfl := Option.some.inj H; go_enter Try.func127, Try.ntmps127; go_wp2; go_ret; exact ⟨zfe, zdr⟩
 ·rw [if_neg c2] at H; have c2b0 : (a0.toList == ([] : List UInt8)) = false := beq_eq_false_iff_ne.mpr c2; have c2b1 : (a0.toList != ([] : List UInt8)) = true := bne_iff_ne.mpr c2; by_cases c3 : 0 < (a0.size : Int)
  ·rw [if_pos c3] at H; have c3b0 : decide (0 < (a0.size : Int)) = true := decide_eq_true c3; (have c3b1 : decide (0 < a0.size) = true := decide_eq_true (by omega)); clear c3; by_cases c5 : (bt a0 0) ≥ 97
   ·rw [if_pos c5] at H; have c5b0 : decide (97 ≤ (bt a0 0)) = true := decide_eq_true c5; clear c5; by_cases c7 : (bt a0 0) ≤ 122
    ·rw [if_pos c7] at H; have c7b0 : decide ((bt a0 0) ≤ 122) = true := decide_eq_true c7; clear c7; by_cases c8 : 1 ≤ (a0.size : Int)
     ·rw [if_pos c8] at H; have c8b0 := eq_true c8; have c8b1 : decide (1 ≤ (a0.size : Int)) = true := decide_eq_true c8; clear c8; obtain ⟨t101, A9, H⟩ := zbd H; (try dsimp only at H); obtain rfl := Option.some.inj H; (have p4 : 0 ≤ (0 : Int) := (by omega)); (have q4 : 0 < a0.size := (by have : (0 : Int) < (a0.size : Int) := zda; omega)); have hx4 : ∀ h : 0 < a0.size, ((a0[0]'h).toNat : Int) = bt a0 0 := bt_at a0 0; clear p4; have qi4 : (0 < (a0.size : Int)) = True := eq_true (zda); replace q4 := eq_true q4; (have p6 : 0 ≤ (0 : Int) := (by omega)); (have q6 : 0 < a0.size := (by have : (0 : Int) < (a0.size : Int) := zda; omega)); have hx6 : ∀ h : 0 < a0.size, ((a0[0]'h).toNat : Int) = bt a0 0 := bt_at a0 0; clear p6; have qi6 : (0 < (a0.size : Int)) = True := eq_true (zda); replace q6 := eq_true q6; go_enter Try.func127, Try.ntmps127; (go_wp2_with (first | (go_at_call 127; (with_reducible refine (ih k (by omega) (a0.extract 1 a0.size) t101 _ A9.out).mono ?_); rintro e w' ⟨rfl, ⟨nd, rfl⟩⟩))); go_ret; exact ⟨zfe, zdr⟩
     ·rw [if_neg c8] at H; exact absurd H (by simp)
    ·rw [if_neg c7] at H; have c7b0 : decide ((bt a0 0) ≤ 122) = false := decide_eq_false c7; clear c7; obtain rfl := Option.some.inj H; (have p4 : 0 ≤ (0 : Int) := (by omega)); (have q4 : 0 < a0.size := (by have : (0 : Int) < (a0.size : Int) := zda; omega)); have hx4 : ∀ h : 0 < a0.size, ((a0[0]'h).toNat : Int) = bt a0 0 := bt_at a0 0; clear p4; have qi4 : (0 < (a0.size : Int)) = True := eq_true (zda); replace q4 := eq_true q4; (have p6 : 0 ≤ (0 : Int) := (by omega)); (have q6 : 0 < a0.size := (by have : (0 : Int) < (a0.size : Int) := zda; omega)); have hx6 : ∀ h : 0 < a0.size, ((a0[0]'h).toNat : Int) = bt a0 0 := bt_at a0 0; clear p6; have qi6 : (0 < (a0.size : Int)) = True := eq_true (zda); replace q6 := eq_true q6; go_enter Try.func127, Try.ntmps127; go_wp2; go_ret; exact ⟨zfe, zdr⟩
   ·rw [if_neg c5] at H; have c5b0 : decide (97 ≤ (bt a0 0)) = false := decide_eq_false c5; clear c5; obtain rfl := Option.some.inj H; (have p4 : 0 ≤ (0 : Int) := (by omega)); (have q4 : 0 < a0.size := (by have : (0 : Int) < (a0.size : Int) := zda; omega)); have hx4 : ∀ h : 0 < a0.size, ((a0[0]'h).toNat : Int) = bt a0 0 := bt_at a0 0; clear p4; have qi4 : (0 < (a0.size : Int)) = True := eq_true (zda); replace q4 := eq_true q4; go_enter Try.func127, Try.ntmps127; go_wp2; go_ret; exact ⟨zfe, zdr⟩
  ·rw [if_neg c3] at H; exact absurd H (by simp)
/-! ### impl_KeyValid: function 74 -/
def impl_KeyValid.f (k : Nat) (a0 : ByteArray) : Option (Bool) := if (a0.size : Int) < 1 then (some false) else (if (a0.size : Int) > 4 then (some false) else ((impl_lettersOnly.f k a0).bind fun t102 => (some t102)))
theorem impl_KeyValid.mono : ∀ a0 k, LeO (impl_KeyValid.f k a0) (impl_KeyValid.f (k + 1) a0) := by
 intro a0 k; unfold impl_KeyValid.f; repeat' with_reducible first | exact impl_lettersOnly.mono .. | exact LeO.refl _ | exact LeO.none _ | refine LeO.ite ?_ ?_ | refine LeO.bind ?_ (fun _ => ?_)
set_option maxHeartbeats 8000000 in
set_option maxRecDepth 100000 in
theorem impl_KeyValid.calls (k : Nat) (a0 : ByteArray) (r : Bool) (w : World) (h : impl_KeyValid.f k a0 = some r) :
    Calls Try.prog 74 #[.string a0] w fun e w' => e = .returned (.bool r) ∧ Drawn0 w w' := by
 unfold impl_KeyValid.f at h; have H := h; clear h; by_cases c2 : (a0.size : Int) < 1
 ·rw [if_pos c2] at H; have c2b0 : decide ((a0.size : Int) < 1) = true := decide_eq_true c2; (have c2b1 : decide (a0.size < 1) = true := decide_eq_true (by omega)); clear c2; obtain rfl := Option.some.inj H; go_enter Try.func74, Try.ntmps74; go_wp2; go_ret; exact ⟨zfe, zdr⟩
 ·rw [if_neg c2] at H; have c2b0 : decide ((a0.size : Int) < 1) = false := decide_eq_false c2; (have c2b1 : decide (a0.size < 1) = false := decide_eq_false (by omega)); clear c2; by_cases c3 : (a0.size : Int) > 4
  ·rw [if_pos c3] at H; have c3b0 : decide (4 < (a0.size : Int)) = true := decide_eq_true c3; (have c3b1 : decide (4 < a0.size) = true := decide_eq_true (by omega)); clear c3; obtain rfl := Option.some.inj H; go_enter Try.func74, Try.ntmps74; go_wp2; go_ret; exact ⟨zfe, zdr⟩
  ·rw [if_neg c3] at H; have c3b0 : decide (4 < (a0.size : Int)) = false := decide_eq_false c3; (have c3b1 : decide (4 < a0.size) = false := decide_eq_false (by omega)); clear c3; obtain ⟨t102, A4, H⟩ := zbd H; (try dsimp only at H); obtain rfl := Option.some.inj H; go_enter Try.func74, Try.ntmps74; (go_wp2_with (first | ((with_reducible refine gate_callee (f := 127) rfl ?_); refine gsl (some 12) rfl Try.func127 #[.string a0] rfl ?_; (with_reducible refine (impl_lettersOnly.calls k a0 t102 _ A4.out).mono ?_); rintro e w' ⟨rfl, ⟨nd, rfl⟩⟩; refine ⟨_, rfl, ?_⟩))); go_ret; exact ⟨zfe, zdr⟩
/-! ### impl_keysFrom: function 159 -/
def impl_keysFrom.f : Nat → Int → Option (Int)
  | 0, _ => none
  | k + 1, a0 => if a0 ≥ 4 then (some 1) else ((impl_keysFrom.f k (wrap64 (a0 + 1))).bind fun t103 => (some (wrap64 (1 + (wrap64 (26 * t103))))))
theorem impl_keysFrom.mono_l : ∀ k, (∀ y0, LeO (impl_keysFrom.f k y0) (impl_keysFrom.f (k + 1) y0))
  | 0 => fun _ r h => by simp [impl_keysFrom.f] at h
  | k + 1 => by
    have ih0 := impl_keysFrom.mono_l k
    · intro y0
      unfold impl_keysFrom.f
      repeat' with_reducible first | exact ih0 _ | exact LeO.refl _ | exact LeO.none _ | refine LeO.ite ?_ ?_ | refine LeO.bind ?_ (fun _ => ?_)
theorem impl_keysFrom.mono : ∀ a0 k, LeO (impl_keysFrom.f k a0) (impl_keysFrom.f (k + 1) a0) := by
 intro a0 k; have ih0 := impl_keysFrom.mono_l k; exact ih0 a0
set_option maxHeartbeats 8000000 in
set_option maxRecDepth 100000 in
theorem impl_keysFrom.calls (k : Nat) : ∀ (a0 : Int) (r : Int) (w : World) (h : impl_keysFrom.f k a0 = some r),
    Calls Try.prog 159 #[.int .i64 a0] w fun e w' => e = .returned (.int .i64 r) ∧ Drawn0 w w' := by
 induction k using Nat.strongRecOn with
 | _ k ih =>
 intro a0 r w h
 cases k with
 | zero => exact absurd h (by simp [impl_keysFrom.f])
 | succ k =>
 simp only [impl_keysFrom.f] at h; have H : (if a0 ≥ 4 then (some 1) else ((impl_keysFrom.f k (wrap64 (a0 + 1))).bind fun t103 => (some (wrap64 (1 + (wrap64 (26 * t103))))))) = some r := h; clear h; by_cases c2 : a0 ≥ 4
 ·rw [if_pos c2] at H; have c2b0 : decide (4 ≤ a0) = true := decide_eq_true c2; clear c2; obtain rfl := Option.some.inj H; go_enter Try.func159, Try.ntmps159; go_wp2; go_ret; exact ⟨zfe, zdr⟩
 ·rw [if_neg c2] at H; have c2b0 : decide (4 ≤ a0) = false := decide_eq_false c2; clear c2; obtain ⟨t103, A3, H⟩ := zbd H; (try dsimp only at H); obtain rfl := Option.some.inj H; go_enter Try.func159, Try.ntmps159; (go_wp2_with (first | ((with_reducible refine gate_callee (f := 159) rfl ?_); refine gsl (some 7) rfl Try.func159 #[.int .i64 (wrap64 (a0 + 1))] rfl ?_; (with_reducible refine (ih k (by omega) (wrap64 (a0 + 1)) t103 _ A3.out).mono ?_); rintro e w' ⟨rfl, ⟨nd, rfl⟩⟩; refine ⟨_, rfl, ?_⟩))); go_ret; exact ⟨zfe, zdr⟩
/-! ### impl_rankBelow: function 128 -/
def impl_rankBelow.f : Nat → ByteArray → Int → Option (Int)
  | 0, _, _ => none
  | k + 1, a0, a1 => if a0.toList = ([] : List UInt8) then (some 0) else (if 0 < (a0.size : Int) then ((impl_keysFrom.f k a1).bind fun t104 => (if 1 ≤ (a0.size : Int) then ((impl_rankBelow.f k (a0.extract 1 a0.size) (wrap64 (a1 + 1))).bind fun t105 => (some (wrap64 ((wrap64 (1 + (wrap64 ((((bt a0 0) - 97) % 256) * t104)))) + t105)))) else (none))) else (none))
theorem impl_rankBelow.mono_l : ∀ k, (∀ y0 y1, LeO (impl_rankBelow.f k y0 y1) (impl_rankBelow.f (k + 1) y0 y1))
  | 0 => fun _ _ r h => by simp [impl_rankBelow.f] at h
  | k + 1 => by
    have ih0 := impl_rankBelow.mono_l k
    · intro y0 y1
      unfold impl_rankBelow.f
      repeat' with_reducible first | exact ih0 _ _ | exact impl_keysFrom.mono .. | exact LeO.refl _ | exact LeO.none _ | refine LeO.ite ?_ ?_ | refine LeO.bind ?_ (fun _ => ?_)
theorem impl_rankBelow.mono : ∀ a0 a1 k, LeO (impl_rankBelow.f k a0 a1) (impl_rankBelow.f (k + 1) a0 a1) := by
 intro a0 a1 k; have ih0 := impl_rankBelow.mono_l k; exact ih0 a0 a1
def impl_rankBelow.T3 : Bool × List (List Nat × List Nat) := (true, [([], []), ([0], [0]), ([1], [1]), ([2], [2]), ([], []), ([4], [4]), ([3, 5], [3, 5]), ([6], [6]), ([], []), ([8], [8]), ([], []), ([10], [10]), ([9, 11, 5], [9, 11]), ([7, 12], [7, 12]), ([13, 12, 0, 1, 2, 3, 4, 5, 6, 7, 8, 9, 10, 11, 12, 13], [13])])
def impl_rankBelow.B3 : List Nat := [0, 1, 3, 7, 0, 16, 63, 127, 0, 256, 0, 1024, 3888, 8191, 16383]
theorem impl_rankBelow.tab3 : rtab .any (opsOf Try.f128 3) = impl_rankBelow.T3 := by kernel_rfl
theorem impl_rankBelow.bits3 : waitsOk impl_rankBelow.T3.2 impl_rankBelow.B3 = true := by kernel_rfl
def q128m0 : Array Bool := Array.replicate 15 false
def q128m1 : Array Bool := mkB 15 1
def q128m2 : Array Bool := mkB 15 17
def q128m3 : Array Bool := mkB 15 273
def q128m4 : Array Bool := mkB 15 785
def q128m5 : Array Bool := mkB 15 1809
def q128m6 : Array Bool := mkB 15 3857
def q128m7 : Array Bool := mkB 15 3859
def q128m8 : Array Bool := mkB 15 3863
def q128m9 : Array Bool := mkB 15 3871
def q128m10 : Array Bool := mkB 15 3903
def q128m11 : Array Bool := mkB 15 3967
def q128m12 : Array Bool := mkB 15 4095
def q128m13 : Array Bool := mkB 15 8191
def q128m14 : Array Bool := mkB 15 16383
def q128m15 : Array Bool := mkB 15 32767
set_option maxHeartbeats 8000000 in
set_option maxRecDepth 100000 in
theorem impl_rankBelow.calls (k : Nat) : ∀ (a0 : ByteArray) (a1 : Int) (r : Int) (w : World) (h : impl_rankBelow.f k a0 a1 = some r),
    Calls Try.prog 128 #[.string a0, .int .i64 a1] w fun e w' => e = .returned (.int .i64 r) ∧ Below w.heap.size w w' := by
 induction k using Nat.strongRecOn with
 | _ k ih =>
 intro a0 a1 r w h
 cases k with
 | zero => exact absurd h (by simp [impl_rankBelow.f])
 | succ k =>
 simp only [impl_rankBelow.f] at h; have HB := Aside0.mk (Below.refl w.heap.size w); have H : (if a0.toList = ([] : List UInt8) then (some 0) else (if 0 < (a0.size : Int) then ((impl_keysFrom.f k a1).bind fun t104 => (if 1 ≤ (a0.size : Int) then ((impl_rankBelow.f k (a0.extract 1 a0.size) (wrap64 (a1 + 1))).bind fun t105 => (some (wrap64 ((wrap64 (1 + (wrap64 ((((bt a0 0) - 97) % 256) * t104)))) + t105)))) else (none))) else (none))) = some r := h; clear h; by_cases c3 : a0.toList = ([] : List UInt8)
 ·rw [if_pos c3] at H; have c3b0 : (a0.toList == ([] : List UInt8)) = true := beq_iff_eq.mpr c3; have c3b1 : (a0.toList != ([] : List UInt8)) = false := bne_eq_false_iff_eq.mpr c3; clear c3; obtain rfl := Option.some.inj H; go_enter Try.func128, Try.ntmps128; go_wp2; go_ret; exact ⟨fe, bp HB.out⟩
 ·rw [if_neg c3] at H; have c3b0 : (a0.toList == ([] : List UInt8)) = false := beq_eq_false_iff_ne.mpr c3; have c3b1 : (a0.toList != ([] : List UInt8)) = true := bne_iff_ne.mpr c3; by_cases c4 : 0 < (a0.size : Int)
  ·rw [if_pos c4] at H; have c4b0 : decide (0 < (a0.size : Int)) = true := decide_eq_true c4; (have c4b1 : decide (0 < a0.size) = true := decide_eq_true (by omega)); clear c4; obtain ⟨t104, A6, H⟩ := zbd H; (try dsimp only at H); by_cases c7 : 1 ≤ (a0.size : Int)
   ·rw [if_pos c7] at H; have c7b0 := eq_true c7; have c7b1 : decide (1 ≤ (a0.size : Int)) = true := decide_eq_true c7; clear c7; obtain ⟨t105, A8, H⟩ := zbd H; (try dsimp only at H); obtain rfl := Option.some.inj H; go_enter Try.func128, Try.ntmps128; (try go_wp2); have n0_ := Aside0.mk (below_drew1 HB.out); clear HB; have HB := n0_; clear n0_; (have p5 : 0 ≤ (0 : Int) := (by omega)); (have q5 : 0 < a0.size := (by have : (0 : Int) < (a0.size : Int) := zda; omega)); have hx5 : ∀ h : 0 < a0.size, ((a0[0]'h).toNat : Int) = bt a0 0 := bt_at a0 0; clear p5; have qi5 : (0 < (a0.size : Int)) = True := eq_true (zda); replace q5 := eq_true q5; (refine start_ (n := 15) (S := fun w' => True) (ds := []) q128m0 (by kernel_rfl) rfl rfl trivial (fun hHeld => ?_); refine with_tabW impl_rankBelow.tab3 impl_rankBelow.bits3 (fun HT_ HW_ => ?_)); generalize w.drew = w9 at HB hHeld ⊢; refine zp 0 7 q128m1 HT_.out ?_; refine zp 4 11 q128m2 HT_.out ?_; refine zp 8 15 q128m3 HT_.out ?_; refine zp 9 16 q128m4 HT_.out ?_; refine zp 10 17 q128m5 HT_.out ?_; refine zp 11 18 q128m6 HT_.out ?_; (refine take_ (i := 1) (N := some 8) (v := ?_) (a' := ?_) q128m7 rfl rfl (take_ofW HT_.out HW_.out (by kernel_rfl)) (fun _ _ _ h => h) (Or.inl ⟨by rfl, ?_⟩) hHeld ?_ ?_); rotate_left
    ·intro w' _; go_simp; with_reducible rfl
    (rotate_left; focus (simp only [Act.put, List.setIfInBounds_toArray, List.set_cons_zero, List.set_cons_succ, i64_w, i32_w]; rfl)); refine zp 2 9 q128m8 HT_.out ?_; refine zp 3 10 q128m9 HT_.out ?_; refine ones (i := 5) (N := some 12) q128m10 rfl rfl HT_.out (fun K hK => ?_); refine gos Try.func159 #[.int .i64 a1] rfl ?_; (with_reducible refine (impl_keysFrom.calls k a1 t104 _ A6.out).mono ?_); rintro e w' ⟨rfl, ⟨nd, rfl⟩⟩; refine ⟨_, rfl, ?_⟩; refine hK.out _ _ trivial (fun hHeld => ?_); clear hK K; refine norm_ (a' := ?_) ?_ ?_; rotate_left
    ·show Act.put _ (some 12) _ = _; simp only [Act.put, List.setIfInBounds_toArray, List.set_cons_zero, List.set_cons_succ, i64_w, i32_w]; rfl
    refine zp 6 13 q128m11 HT_.out ?_; refine zp 7 14 q128m12 HT_.out ?_; refine ones (i := 12) (N := some 19) q128m13 rfl rfl HT_.out (fun K hK => ?_); refine gos Try.func128 #[.string (a0.extract 1 a0.size), .int .i64 (wrap64 (a1 + 1))] rfl ?_; (with_reducible refine (ih k (by omega) (a0.extract 1 a0.size) (wrap64 (a1 + 1)) t105 _ A8.out).mono ?_); rintro e w10 ⟨rfl, hb⟩; refine ⟨_, rfl, ?_⟩; have n0_ := an0 HB hb; clear HB; have HB := n0_; clear n0_; (try clear hb); (try clear hb2); (try clear hk); (try clear hi); (try clear hgw); refine hK.out _ _ trivial (fun hHeld => ?_); clear hK K; refine norm_ (a' := ?_) ?_ ?_; rotate_left
    ·show Act.put _ (some 19) _ = _; simp only [Act.put, List.setIfInBounds_toArray, List.set_cons_zero, List.set_cons_succ, i64_w, i32_w]; rfl
    refine zp 13 20 q128m14 HT_.out ?_; refine zp 14 4 q128m15 HT_.out ?_; (refine done_ (done_of HT_.out (by kernel_rfl)) ?_); (try go_wp2); go_ret; exact ⟨fe, bp HB.out⟩
   ·rw [if_neg c7] at H; exact absurd H (by simp)
  ·rw [if_neg c4] at H; exact absurd H (by simp)
/-! ### impl_KeyRank: function 76 -/
def impl_KeyRank.f (k : Nat) (a0 : ByteArray) : Option (Int) := (impl_KeyValid.f k a0).bind fun t106 => (if t106 = true then ((impl_rankBelow.f k a0 1).bind fun t107 => (some (wrap64 (t107 - 1)))) else (some (-1)))
theorem impl_KeyRank.mono : ∀ a0 k, LeO (impl_KeyRank.f k a0) (impl_KeyRank.f (k + 1) a0) := by
 intro a0 k; unfold impl_KeyRank.f; repeat' with_reducible first | exact impl_KeyValid.mono .. | exact impl_rankBelow.mono .. | exact LeO.refl _ | exact LeO.none _ | refine LeO.ite ?_ ?_ | refine LeO.bind ?_ (fun _ => ?_)
set_option maxHeartbeats 8000000 in
set_option maxRecDepth 100000 in
theorem impl_KeyRank.calls (k : Nat) (a0 : ByteArray) (r : Int) (w : World) (h : impl_KeyRank.f k a0 = some r) :
    Calls Try.prog 76 #[.string a0] w fun e w' => e = .returned (.int .i64 r) ∧ Below w.heap.size w w' := by
 have HB := Aside0.mk (Below.refl w.heap.size w); unfold impl_KeyRank.f at h; have H := h; clear h; obtain ⟨t106, A2, H⟩ := zbd H; (try dsimp only at H); have HC3 := Aside0.mk H; clear H; go_enter Try.func76, Try.ntmps76; (go_upto_if 5 with (first | ((with_reducible refine gate_callee (f := 74) rfl ?_); refine gsl (some 4) rfl Try.func74 #[.string a0] rfl ?_; (with_reducible refine (impl_KeyValid.calls k a0 t106 _ A2.out).mono ?_); rintro e w' ⟨rfl, ⟨nd, rfl⟩⟩; refine ⟨_, rfl, ?_⟩))); (try simp only [Act.put, List.setIfInBounds_toArray, List.set_cons_zero, List.set_cons_succ]); have H := HC3.out; clear HC3; by_cases c4 : t106 = true
 ·subst c4; rw [if_pos rfl] at H; obtain ⟨t107, A5, H⟩ := zbd H; (try dsimp only at H); obtain rfl := Option.some.inj H; (go_wp2_with (first | ((with_reducible refine gate_callee (f := 128) rfl ?_); refine gsl (some 7) rfl Try.func128 #[.string a0, .int .i64 1] rfl ?_; (with_reducible refine (impl_rankBelow.calls k a0 1 t107 _ A5.out).mono ?_); rintro e w6 ⟨rfl, hb⟩; refine ⟨_, rfl, ?_⟩; replace HB := an0 HB hb; (try clear hb); (try clear hb2); (try clear hk); (try clear hi); (try clear hgw)))); go_ret; exact ⟨fe, bp HB.out⟩
 ·replace c4 := Bool.eq_false_iff.mpr c4; subst c4; rw [if_neg zft] at H; obtain rfl := Option.some.inj H; go_wp2; go_ret; exact ⟨fe, bp HB.out⟩
/-! ### laws_alive: function 18 -/
def laws_alive.f (k : Nat)  : Option (Bool) := (impl_KeyRank.f k (⟨#[97, 97]⟩ : ByteArray)).bind fun t108 => (if t108 = 1 then ((impl_KeyRank.f k (⟨#[]⟩ : ByteArray)).bind fun t109 => (some (t109 == (-1)))) else (some false))
theorem laws_alive.mono : ∀ k, LeO (laws_alive.f k ) (laws_alive.f (k + 1) ) := by
 intro  k; unfold laws_alive.f; repeat' with_reducible first | exact impl_KeyRank.mono .. | exact LeO.refl _ | exact LeO.none _ | refine LeO.ite ?_ ?_ | refine LeO.bind ?_ (fun _ => ?_)
set_option maxHeartbeats 8000000 in
set_option maxRecDepth 100000 in
theorem laws_alive.calls (k : Nat)  (r : Bool) (w : World) (h : laws_alive.f k  = some r) :
    Calls Try.prog 18 #[] w fun e w' => e = .returned (.bool r) ∧ Below w.heap.size w w' := by
 have HB := Aside0.mk (Below.refl w.heap.size w); unfold laws_alive.f at h; have H := h; clear h; obtain ⟨t108, A1, H⟩ := zbd H; (try dsimp only at H); by_cases c2 : t108 = 1
 ·rw [if_pos c2] at H; have c2b0 : (t108 == 1) = true := beq_iff_eq.mpr c2; have c2b1 : (t108 != 1) = false := bne_eq_false_iff_eq.mpr c2; clear c2; obtain ⟨t109, A3, H⟩ := zbd H; (try dsimp only at H); obtain rfl := Option.some.inj H; go_enter Try.func18, Try.ntmps18; (go_wp2_with (first | ((with_reducible refine gate_callee (f := 76) rfl ?_); refine gsl (some 1) rfl Try.func76 #[.string (⟨#[97, 97]⟩ : ByteArray)] rfl ?_; (with_reducible refine (impl_KeyRank.calls k (⟨#[97, 97]⟩ : ByteArray) t108 _ A1.out).mono ?_); rintro e w4 ⟨rfl, hb⟩; refine ⟨_, rfl, ?_⟩; replace HB := an0 HB hb; (try clear hb); (try clear hgw)) | (go_at_call 76; (with_reducible refine (impl_KeyRank.calls k (⟨#[]⟩ : ByteArray) t109 _ A3.out).mono ?_); rintro e w5 ⟨rfl, hb⟩; replace HB := an0 HB hb; (try clear hb); (try clear hgw)))); go_ret; exact ⟨fe, bp HB.out⟩
 ·rw [if_neg c2] at H; have c2b0 : (t108 == 1) = false := beq_eq_false_iff_ne.mpr c2; have c2b1 : (t108 != 1) = true := bne_iff_ne.mpr c2; obtain rfl := Option.some.inj H; go_enter Try.func18, Try.ntmps18; (go_wp2_with (first | ((with_reducible refine gate_callee (f := 76) rfl ?_); refine gsl (some 1) rfl Try.func76 #[.string (⟨#[97, 97]⟩ : ByteArray)] rfl ?_; (with_reducible refine (impl_KeyRank.calls k (⟨#[97, 97]⟩ : ByteArray) t108 _ A1.out).mono ?_); rintro e w6 ⟨rfl, hb⟩; refine ⟨_, rfl, ?_⟩; replace HB := an0 HB hb; (try clear hb); (try clear hb2); (try clear hk); (try clear hi); (try clear hgw)))); go_ret; exact ⟨fe, bp HB.out⟩
/-- A state of type 147 at block g of W; what its slices lead to came in by w0. -/
def IsS147 (w0 W : World) (g : Nat) (f0 : List Int) (f1 : Int) : Prop := ∃ A0 c0, W.heap[g]? = some (.cells #[.slice A0 f0.length c0, .int .i64 f1] 147 (0, 0)) ∧ w0.heap.size ≤ g ∧ Kd.C (Kd.int .u8) w0 A0 f0.length f0
theorem IsS147.grown {w0 W : World} {g : Nat} {f0 : List Int} {f1 : Int} {W1 : World} {row : Option Nat} (h : IsS147 w0 W g f0 f1) (hw : W.grownBy W1 row) (hne : some g ≠ row) : IsS147 w0 W1 g f0 f1 := by
 obtain ⟨A0, c0, hb, hg, hr0⟩ := h; exact ⟨A0, c0, blk_grown hb hw hne, hg, hr0⟩
theorem IsS147.own_neN {w0 W : World} {g : Nat} {f0 : List Int} {f1 : Int} {α : Type} {d : Kd α} {e : Nat} {base : Nat} {ok : Nat → Prop} {v : Value} {xs : List α} (h : IsS147 w0 W g f0 f1) (ho : Kd.N d e W base ok v xs) (ht : e ≠ 147) : some g ≠ v.ownBlock := by
 obtain ⟨A0, c0, hb, hg, hr0⟩ := h; exact Kd.N_ne ho hb ht
theorem IsS147.fresh {w0 W : World} {g : Nat} {f0 : List Int} {f1 : Int} (h : IsS147 w0 W g f0 f1) : ∀ k, W.heap.size ≤ k → k ≠ g := by
 obtain ⟨A0, c0, hb, hg, hr0⟩ := h; exact Kd.freshB hb
theorem IsS147.kept {w0 W : World} {g : Nat} {f0 : List Int} {f1 : Int} {W1 : World} {S : Nat → Prop} (h : IsS147 w0 W g f0 f1) (hk : Kept W W1 S) (hne : ¬ S g) : IsS147 w0 W1 g f0 f1 := by
 obtain ⟨A0, c0, hb, hg, hr0⟩ := h; exact ⟨A0, c0, blk_kept hb hk hne, hg, hr0⟩
theorem IsS147.below {w0 W : World} {g : Nat} {f0 : List Int} {f1 : Int} {W1 : World} (h : IsS147 w0 W g f0 f1) (hw : Below W.heap.size W W1) : IsS147 w0 W1 g f0 f1 := h.grown (grown_of_below hw none) (by simp)
theorem IsS147.alloc {w0 W : World} {g : Nat} {f0 : List Int} {f1 : Int} (h : IsS147 w0 W g f0 f1) (o : Obj) : IsS147 w0 (W.alloc o) g f0 f1 := h.below (below_alloc (Below.refl _ _) o)
theorem IsS147.drewN {w0 W : World} {g : Nat} {f0 : List Int} {f1 : Int} (h : IsS147 w0 W g f0 f1) (m : Nat) : IsS147 w0 (W.drewN m) g f0 f1 := h
theorem IsS147.drew {w0 W : World} {g : Nat} {f0 : List Int} {f1 : Int} (h : IsS147 w0 W g f0 f1) : IsS147 w0 W.drew g f0 f1 := h
theorem IsS147.at_ {w0 W : World} {g : Nat} {f0 : List Int} {f1 : Int} {w' : World} {m : Nat} (hq : W.drewN m = w') (h : IsS147 w0 W g f0 f1) : IsS147 w0 w' g f0 f1 := by subst hq; exact IsS147.drewN h m
theorem IsS147.apart {w0 W : World} {g : Nat} {f0 : List Int} {f1 : Int} {α : Type} {d : Kd α} {e : Nat} {base : Nat} {ok : Nat → Prop} {v : Value} {xs : List α} (h : IsS147 w0 W g f0 f1) (ho : d.R e W base ok v xs) (ht : ∀ q, q ∈ e :: d.E → q ≠ 147) : d.R e W base (fun k => ok k ∧ k ≠ g) v xs := by
 obtain ⟨A0, c0, hb, hg, hr0⟩ := h; exact Kd.R_types ho hb ht
theorem IsS147.own_ne {w0 W : World} {g : Nat} {f0 : List Int} {f1 : Int} {α : Type} {d : Kd α} {e : Nat} {base : Nat} {ok : Nat → Prop} {v : Value} {xs : List α} (h : IsS147 w0 W g f0 f1) (ho : d.R e W base ok v xs) (ht : e ≠ 147) : some g ≠ v.ownBlock := by
 obtain ⟨A0, c0, hb, hg, hr0⟩ := h; exact Kd.R_ne ho hb ht
theorem IsS147.apartQ {w0 W : World} {g : Nat} {f0 : List Int} {f1 : Int} {α : Type} {d : Kd α} {e : Nat} {base : Nat} {ok : Nat → Prop} {v : Value} {xs : List α} (h : IsS147 w0 W g f0 f1) (ho : d.Q e W base ok v xs) (ht : ∀ q, q ∈ e :: d.E → q ≠ 147) : d.Q e W base (fun k => ok k ∧ k ≠ g) v xs := by
 obtain ⟨A0, c0, hb, hg, hr0⟩ := h; exact Kd.Q_types ho hb ht
theorem IsS147.own_neQ {w0 W : World} {g : Nat} {f0 : List Int} {f1 : Int} {α : Type} {d : Kd α} {e : Nat} {base : Nat} {ok : Nat → Prop} {v : Value} {xs : List α} (h : IsS147 w0 W g f0 f1) (ho : d.Q e W base ok v xs) (ht : e ≠ 147) : some g ≠ v.ownBlock := by
 obtain ⟨A0, c0, hb, hg, hr0⟩ := h; exact Kd.Q_ne ho hb ht
theorem IsS147.apartS {w0 W : World} {g : Nat} {f0 : List Int} {f1 : Int} {α : Type} {d : Kd α} {e : Nat} {base : Nat} {ok : Nat → Prop} {v : Value} {xs : List α} (h : IsS147 w0 W g f0 f1) (ho : d.S e W base ok v xs) (ht : ∀ q, q ∈ e :: d.E → q ≠ 147) : d.S e W base (fun k => ok k ∧ k ≠ g) v xs := by
 obtain ⟨A0, c0, hb, hg, hr0⟩ := h; exact Kd.S_types ho hb ht
theorem IsS147.own_neS {w0 W : World} {g : Nat} {f0 : List Int} {f1 : Int} {α : Type} {d : Kd α} {e : Nat} {base : Nat} {ok : Nat → Prop} {v : Value} {xs : List α} (h : IsS147 w0 W g f0 f1) (ho : d.S e W base ok v xs) (ht : e ≠ 147) : some g ≠ v.ownBlock := by
 obtain ⟨A0, c0, hb, hg, hr0⟩ := h; exact Kd.S_ne ho hb ht
theorem IsS147.lt {w0 W : World} {g : Nat} {f0 : List Int} {f1 : Int} (h : IsS147 w0 W g f0 f1) : g < W.heap.size := by
 obtain ⟨A0, c0, hb, hg, hr0⟩ := h; exact blk_lt hb
theorem IsS147.ge {w0 W : World} {g : Nat} {f0 : List Int} {f1 : Int} (h : IsS147 w0 W g f0 f1) : w0.heap.size ≤ g := by
 obtain ⟨A0, c0, hb, hg, hr0⟩ := h; exact hg
theorem IsS147.ne_blk {w0 W : World} {g : Nat} {f0 : List Int} {f1 : Int} {a : Nat} {cs : Array Value} {t : TypeId} {fr : Nat × Nat} (h : IsS147 w0 W g f0 f1) (hb2 : W.heap[a]? = some (.cells cs t fr)) (ht : t ≠ 147) : g ≠ a := by
 obtain ⟨A0, c0, hb, hg, hr0⟩ := h; rintro rfl; rw [hb] at hb2; injection hb2 with hb2; injection hb2 with _ ht2; exact ht ht2.symm
theorem IsS147.farA {w0 W : World} {g : Nat} {f0 : List Int} {f1 : Int} {b o : Nat} {q_ : Option Nat} {u : Value} (hne : g ≠ b) (h : IsS147 w0 W g f0 f1) : IsS147 w0 (W.setCell ⟨b, o, q_⟩ u) g f0 f1 := by
 obtain ⟨A0, c0, hb, hg, hr0⟩ := h; exact ⟨A0, c0, blk_far hb hne u, hg, hr0⟩
theorem IsS147.far {w0 W : World} {g : Nat} {f0 : List Int} {f1 : Int} {p : Addr} (h : IsS147 w0 W g f0 f1) (hne : g ≠ p.block) (u : Value) : IsS147 w0 (W.setCell p u) g f0 f1 := by
 obtain ⟨A0, c0, hb, hg, hr0⟩ := h; exact ⟨A0, c0, blk_far hb hne u, hg, hr0⟩
theorem cellS147_0 {W : World} {g : Nat} {A0 : Option Addr} {c0 : Nat} {f0 : List Int} {f1 : Int} (h : W.heap[g]? = some (.cells #[.slice A0 f0.length c0, .int .i64 f1] 147 (0, 0))) : W.cell? ⟨g, 0, none⟩ = some (.slice A0 f0.length c0) := (blk_cell h 0).trans rfl
theorem cellS147_1 {W : World} {g : Nat} {A0 : Option Addr} {c0 : Nat} {f0 : List Int} {f1 : Int} (h : W.heap[g]? = some (.cells #[.slice A0 f0.length c0, .int .i64 f1] 147 (0, 0))) : W.cell? ⟨g, 1, none⟩ = some (.int .i64 f1) := (blk_cell h 1).trans rfl
theorem IsS147.set_1 {w0 W : World} {g : Nat} {f0 : List Int} {f1 : Int} (h : IsS147 w0 W g f0 f1) (x : Int) : IsS147 w0 (W.setCell ⟨g, 1, none⟩ (.int .i64 x)) g f0 x := by
 obtain ⟨A0, c0, hb, hg, hr0⟩ := h; exact ⟨A0, c0, by simpa using blk_set hb 1 (.int .i64 x), hg, hr0⟩
theorem IsS147.new (w0 W : World) (A0 : Option Addr) (c0 : Nat) (f0 : List Int) (f1 : Int) (hB : Below w0.heap.size w0 W) (hr0 : Kd.C (Kd.int .u8) w0 A0 f0.length f0) : IsS147 w0 (W.alloc (.cells #[.slice A0 f0.length c0, .int .i64 f1] 147)) W.heap.size f0 f1 := ⟨A0, c0, by simpa using heap_alloc_new W _, hB.size, hr0⟩

/-! ### spec_l20Open: function 71 -/
def spec_l20Open.f (l0 : List Int) : Option (List Int × Int) := if (l0.length : Int) > 2000 then (if 2000 ≤ (l0.length : Int) then (some ((l0.take 2000), 0)) else (none)) else (some (l0, 0))
set_option maxHeartbeats 8000000 in
set_option maxRecDepth 100000 in
theorem spec_l20Open.calls (A0 : Option Addr) (c0 : Nat) (l0 : List Int) (r1 : List Int) (r2 : Int) (w0 w : World) (hB : Below w0.heap.size w0 w) (hr0 : Kd.C (Kd.int .u8) w0 A0 l0.length l0) (hc0 : l0.length ≤ c0) (h : spec_l20Open.f l0 = some (r1, r2)) :
    Calls Try.prog 71 #[.slice A0 l0.length c0] w fun e w' => ∃ g_ : Nat, e = .returned (.pointer (some ⟨g_, 0, none⟩)) ∧ IsS147 w0 w' g_ r1 r2 ∧ Below w0.heap.size w0 w' ∧ Below w.heap.size w w' ∧ w.heap.size ≤ g_ := by
 have hu147 := Try.underlying147; have HR0 := Aside0.mk hr0; have HC0 := Aside0.mk hc0; clear hr0 hc0; have HBW := Aside0.mk (Below.refl w.heap.size w); have HW0 := Aside0.mk hB.size; have HB := Aside0.mk hB; clear hB; unfold spec_l20Open.f at h; have H := h; clear h; by_cases c2 : (l0.length : Int) > 2000
 ·rw [if_pos c2] at H; have c2b0 : decide (2000 < (l0.length : Int)) = true := decide_eq_true c2; (have c2b1 : decide (2000 < l0.length) = true := decide_eq_true (by omega)); clear c2; by_cases c3 : 2000 ≤ (l0.length : Int)
  ·rw [if_pos c3] at H; have c3b0 := eq_true c3; have c3b1 : decide (2000 ≤ (l0.length : Int)) = true := decide_eq_true c3; clear c3; obtain ⟨y110, hy110⟩ : ∃ y_ : List Int, y_ = (l0.take 2000) := ⟨_, rfl⟩; (replace H : (some (y110, 0)) = some (r1, r2) := zsy H hy110); have Ny110 := Aside0.mk hy110; clear hy110; simp only [Option.some.injEq, Prod.mk.injEq] at H; obtain ⟨rfl, rfl⟩ := H; have q4 : (2000 : Int) ≤ ((l0.length : Int) : Int) := zda; obtain ⟨i04, hi04, _, hsz4, _⟩ := info_parts info5; have hroom4 : l0.length ≤ c0 := HC0.out; have hC4 : Kd.C (Kd.int .u8) _ A0 l0.length l0 := HR0.out; (have hcut4 := cut_to (P := Try.prog) 22 5 .i64 Try.underlying22 hi04 A0 l0.length c0 2000 (by omega) q4 hroom4); (have hr4 := Kd.C_take (m := 2000) hC4 (by omega)); (have hy4 : y110.length = (2000 : Int).toNat := (by rw [Ny110.out, List.length_take]; omega)); rw [← Ny110.out] at hr4; rw [← hy4] at hcut4; have HR113 := Aside0.mk hr4; (have HC113 := Aside0.mk (show y110.length ≤ c0 from by omega)); clear hr4 hC4 hroom4 hi04 hsz4; have KY4 := Aside0.mk hy4; clear hy4; replace q4 := eq_true q4; go_enter Try.func71, Try.ntmps71; (go_wp2_with (first | ((with_reducible refine gate_dst (N := 10) rfl ?_); refine bxe (N := 10) (cs := #[.slice A0 y110.length c0, .int .i64 0]) (t := 147) ?_; intro gb114 hg w5 hbox hb; have n_ := zn5 (Aside0.mk (below_step HBW.out hb)) (an0 HB hb) (Aside0.mk (hbox)) (an2 HBW hg) (Aside0.mk ((Nat.le_trans HW0.out (by rw [hg]; exact (below_size (bp HBW.out)) : w.heap.size ≤ gb114) : w0.heap.size ≤ gb114))); clear HBW HB; obtain ⟨HBW, HB, BK114, GW114, GE114⟩ := n_; clear hb hbox hg))); go_ret; exact ⟨_, rfl, (show IsS147 w0 _ gb114 y110 0 from ⟨_, _, kb BK114.out, GE114.out, HR113.out⟩), bp HB.out, bp HBW.out, GW114.out⟩
  ·rw [if_neg c3] at H; exact absurd H (by simp)
 ·rw [if_neg c2] at H; have c2b0 : decide (2000 < (l0.length : Int)) = false := decide_eq_false c2; (have c2b1 : decide (2000 < l0.length) = false := decide_eq_false (by omega)); clear c2; simp only [Option.some.injEq, Prod.mk.injEq] at H; obtain ⟨rfl, rfl⟩ := H; go_enter Try.func71, Try.ntmps71; (go_wp2_with (first | ((with_reducible refine gate_dst (N := 10) rfl ?_); refine bxe (N := 10) (cs := #[.slice A0 l0.length c0, .int .i64 0]) (t := 147) ?_; intro gb115 hg w6 hbox hb; have n_ := zn5 (Aside0.mk (below_step HBW.out hb)) (an0 HB hb) (Aside0.mk (hbox)) (an2 HBW hg) (Aside0.mk ((Nat.le_trans HW0.out (by rw [hg]; exact (below_size (bp HBW.out)) : w.heap.size ≤ gb115) : w0.heap.size ≤ gb115))); clear HBW HB; obtain ⟨HBW, HB, BK115, GW115, GE115⟩ := n_; clear hb hbox hg))); go_ret; exact ⟨_, rfl, (show IsS147 w0 _ gb115 l0 0 from ⟨_, _, kb BK115.out, GE115.out, HR0.out⟩), bp HB.out, bp HBW.out, GW115.out⟩
/-! ### spec_l20Rd_pick: function 78 -/
def spec_l20Rd_pick.j0 : Nat → Int → Bool → List Int → Int → Option (Int × Int)
  | 0, _, _, _, _ => none
  | k + 1, a, b, c, d => if b = true then (some (0, d)) else (if (wrap64 (d - 1)) < (c.length : Int) then (if 0 ≤ (wrap64 (d - 1)) then (if a = 0 then (none) else (some (Int.tmod (wrap64 (rd c (wrap64 (d - 1)))) a, d))) else (none)) else (if (c.length : Int) = 0 then (none) else (if 0 ≤ (Int.tmod (wrap64 (d - 1)) (c.length : Int)) then (if (Int.tmod (wrap64 (d - 1)) (c.length : Int)) < (c.length : Int) then (if 0 ≤ (Int.tmod (wrap64 ((wrap64 ((wrap64 (d - 1)) * 7)) + 3)) (c.length : Int)) then (if (Int.tmod (wrap64 ((wrap64 ((wrap64 (d - 1)) * 7)) + 3)) (c.length : Int)) < (c.length : Int) then (if a = 0 then (none) else (some (Int.tmod (Go.bits .xor .i64 (wrap64 ((wrap64 ((wrap64 ((wrap64 ((wrap64 (rd c (Int.tmod (wrap64 (d - 1)) (c.length : Int)))) * 131)) + (wrap64 ((wrap64 (rd c (Int.tmod (wrap64 ((wrap64 ((wrap64 (d - 1)) * 7)) + 3)) (c.length : Int)))) * 1117)))) + (wrap64 ((wrap64 (d - 1)) * 29)))) + (wrap64 ((wrap64 (Int.tdiv (wrap64 (d - 1)) (c.length : Int))) * 53)))) (wrap64 (Int.tdiv (wrap64 ((wrap64 ((wrap64 ((wrap64 ((wrap64 (rd c (Int.tmod (wrap64 (d - 1)) (c.length : Int)))) * 131)) + (wrap64 ((wrap64 (rd c (Int.tmod (wrap64 ((wrap64 ((wrap64 (d - 1)) * 7)) + 3)) (c.length : Int)))) * 1117)))) + (wrap64 ((wrap64 (d - 1)) * 29)))) + (wrap64 ((wrap64 (Int.tdiv (wrap64 (d - 1)) (c.length : Int))) * 53)))) 64))) a, d))) else (none)) else (none)) else (none)) else (none))))
def spec_l20Rd_pick.f (k : Nat) (s0_0 : List Int) (s0_1 : Int) (a1 : Int) : Option (Int × Int) := if a1 < 1 then (spec_l20Rd_pick.j0 k a1 true s0_0 (wrap64 (s0_1 + 1))) else (spec_l20Rd_pick.j0 k a1 ((s0_0.length : Int) == 0) s0_0 (wrap64 (s0_1 + 1)))
theorem spec_l20Rd_pick.mono_l : ∀ k, (∀ y0 y1 y2 y3, LeO (spec_l20Rd_pick.j0 k y0 y1 y2 y3) (spec_l20Rd_pick.j0 (k + 1) y0 y1 y2 y3))
  | 0 => fun _ _ _ _ r h => by simp [spec_l20Rd_pick.j0] at h
  | k + 1 => by
    have ih0 := spec_l20Rd_pick.mono_l k
    · intro y0 y1 y2 y3
      unfold spec_l20Rd_pick.j0
      repeat' with_reducible first | exact ih0 _ _ _ _ | exact LeO.refl _ | exact LeO.none _ | refine LeO.ite ?_ ?_ | refine LeO.bind ?_ (fun _ => ?_)
theorem spec_l20Rd_pick.mono : ∀ a0 a1 a2 k, LeO (spec_l20Rd_pick.f k a0 a1 a2) (spec_l20Rd_pick.f (k + 1) a0 a1 a2) := by
 intro a0 a1 a2 k; have ih0 := spec_l20Rd_pick.mono_l k; unfold spec_l20Rd_pick.f; repeat' with_reducible first | exact ih0 _ _ _ _ | exact LeO.refl _ | exact LeO.none _ | refine LeO.ite ?_ ?_ | refine LeO.bind ?_ (fun _ => ?_)
theorem spec_l20Rd_pick.s0 {P0 Q : Prop} (B0 : P0) (h : P0 → Q := by (intro b0_; repeat (first | (with_reducible first | exact b0_ | apply IsS147.alloc | apply IsS147.drewN | apply IsS147.drew | apply IsS147.set_1) | exact b0_))) : Q := h B0
theorem spec_l20Rd_pick.s1 {P0 Q : Prop} (B0 : P0) (h : P0 → Q := by (intro b0_; repeat (first | (with_reducible first | exact b0_ | apply KeepBut.set_ | apply keep_drewN | apply keep_drew | apply keep_alloc) | exact b0_))) : Q := h B0
theorem spec_l20Rd_pick.s2 {P0 P1 Q : Prop} (B0 : P0) (B1 : P1) (h : P0 → P1 → Q := by (intro b0_ b1_; repeat (first | (with_reducible first | exact b0_ | apply below_alloc | apply pw_below_drewN | apply below_drew1 | refine below_set ?_ (IsS147.ge b1_)) | exact b0_))) : Q := h B0 B1
set_option maxHeartbeats 8000000 in
set_option maxRecDepth 100000 in
theorem spec_l20Rd_pick.calls (k : Nat) (g : Nat) (s0_0 : List Int) (s0_1 : Int) (a1 : Int) (r1 : Int) (r2 : Int) (w0 w : World) (hI : IsS147 w0 w g s0_0 s0_1) (hB : Below w0.heap.size w0 w) (h : spec_l20Rd_pick.f k s0_0 s0_1 a1 = some (r1, r2)) :
    Calls Try.prog 78 #[.pointer (some ⟨g, 0, none⟩), .int .i64 a1] w fun e w' => e = .returned (.int .i64 r1) ∧ IsS147 w0 w' g s0_0 r2 ∧ Below w0.heap.size w0 w' ∧ KeepBut w w' g none := by
 have HI0 := Aside0.mk hI; have HK := Aside0.mk (KeepBut.refl w g none); have HL := Aside0.mk hB.size; clear hI; have HW0 := Aside0.mk hB.size; have HB := Aside0.mk hB; clear hB; unfold spec_l20Rd_pick.f at h; have H := h; clear h; have HC3 := Aside0.mk H; clear H; obtain ⟨ASz4_0, cSz4_0, HGz4, hgz4, HSz4_0⟩ := HI0.out; have z4a := cellS147_0 HGz4; have z4b := cellS147_1 HGz4; have f4b := blk_frozen HGz4 1; clear HGz4 hgz4; go_enter Try.func78, Try.ntmps78; go_upto_region 2 with (fail); (repeat (go_quiet (fail); go_upto_region 2 with (fail))); go_cut [24] (fun v24 wc => ∃ (kq : Nat) (x24_2 : Bool), v24 = .bool x24_2 ∧ Aside0 (spec_l20Rd_pick.j0 kq a1 x24_2 s0_0 (wrap64 (s0_1 + 1)) = some (r1, r2)) ∧ Aside0 (kq ≤ k) ∧ Aside0 (IsS147 w0 wc g s0_0 (wrap64 (s0_1 + 1))) ∧ Aside0 (KeepBut w wc g none) ∧ Aside0 (Below w0.heap.size w0 wc))
 case first =>
  have H := HC3.out; clear HC3; by_cases c5 : a1 < 1
  ·rw [if_pos c5] at H; have c5b0 : decide (a1 < 1) = true := decide_eq_true c5; clear c5; (first | rw [c5b0] | (simp only [i64_w, i32_w]; rw [c5b0]) | skip); have H' := Aside0.mk H; clear H; go_wp2; (repeat (go_quiet (fail); try go_wp2)); go_meet; case rel => exact ⟨_, (true), zfe, H', ⟨by first | omega | exact Nat.le_refl _⟩, ⟨spec_l20Rd_pick.s0 HI0.out⟩, ⟨spec_l20Rd_pick.s1 HK.out⟩, ⟨spec_l20Rd_pick.s2 HB.out HI0.out⟩⟩
  ·rw [if_neg c5] at H; have c5b0 : decide (a1 < 1) = false := decide_eq_false c5; clear c5; (first | rw [c5b0] | (simp only [i64_w, i32_w]; rw [c5b0]) | skip); have H' := Aside0.mk H; clear H; obtain ⟨ASz6_0, cSz6_0, HGz6, hgz6, HSz6_0⟩ := HI0.out; have z6a := cellS147_0 HGz6; have z6b := cellS147_1 HGz6; have f6b := blk_frozen HGz6 1; clear HGz6 hgz6; go_wp2; (repeat (go_quiet (fail); try go_wp2)); go_meet; case rel => exact ⟨_, (((s0_0.length : Int) == 0)), zfe, H', ⟨by first | omega | exact Nat.le_refl _⟩, ⟨spec_l20Rd_pick.s0 HI0.out⟩, ⟨spec_l20Rd_pick.s1 HK.out⟩, ⟨spec_l20Rd_pick.s2 HB.out HI0.out⟩⟩
 case rest =>
  clear HC3; obtain ⟨kq, x24_2, rfl, HA, HJ2, HI0, HK, HB⟩ := hcut
  cases kq with
  | zero => exact absurd HA.out (by simp [spec_l20Rd_pick.j0])
  | succ kj2 =>
   have H := HA.out; clear HA; simp only [spec_l20Rd_pick.j0] at H; by_cases c7 : x24_2 = true
   ·subst c7; rw [if_pos rfl] at H; simp only [Option.some.injEq, Prod.mk.injEq] at H; obtain ⟨rfl, rfl⟩ := H; go_wp2; (repeat (go_quiet (fail); try go_wp2)); go_ret; exact ⟨fe, spec_l20Rd_pick.s0 HI0.out, spec_l20Rd_pick.s2 HB.out HI0.out, spec_l20Rd_pick.s1 HK.out⟩
   ·replace c7 := Bool.eq_false_iff.mpr c7; subst c7; rw [if_neg zft] at H; by_cases c8 : (wrap64 ((wrap64 (s0_1 + 1)) - 1)) < (s0_0.length : Int)
    ·rw [if_pos c8] at H; have c8b0 : decide ((wrap64 ((wrap64 (s0_1 + 1)) - 1)) < (s0_0.length : Int)) = true := decide_eq_true c8; clear c8; obtain ⟨ji9, hji9⟩ : ∃ j_ : Int, (wrap64 ((wrap64 (s0_1 + 1)) - 1)) = j_ := ⟨_, rfl⟩; (replace H : (if 0 ≤ (ji9) then (if a1 = 0 then (none) else (some (Int.tmod (wrap64 (rd s0_0 (ji9))) a1, (wrap64 (s0_1 + 1))))) else (none)) = some (r1, r2) := by first | (rw [hji9] at H; exact H) | (simp only [hji9] at H ⊢; exact H)); (try rw [hji9] at c8b0); have hji9w : (IntKind.i64.wrap ((wrap64 (s0_1 + 1)) - 1)) = ji9 := (i64_w _).trans hji9; by_cases c10 : 0 ≤ (ji9)
     ·rw [if_pos c10] at H; have c10b0 : decide (0 ≤ (ji9)) = true := decide_eq_true c10; clear c10; by_cases c11 : a1 = 0
      ·rw [if_pos c11] at H; exact absurd H (by simp)
      ·rw [if_neg c11] at H; have c11b0 : (a1 == 0) = false := beq_eq_false_iff_ne.mpr c11; have c11b1 : (a1 != 0) = true := bne_iff_ne.mpr c11; simp only [Option.some.injEq, Prod.mk.injEq] at H; obtain ⟨rfl, rfl⟩ := H; obtain ⟨ASz12_0, cSz12_0, HGz12, hgz12, HSz12_0⟩ := HI0.out; have z12a := cellS147_0 HGz12; have z12b := cellS147_1 HGz12; have f12b := blk_frozen HGz12 1; clear HGz12 hgz12; have p116 : 0 ≤ ((ji9) : Int) := zda; have q116 : (ji9) < (s0_0.length : Int) := zda; obtain ⟨ad116, e116, hx116_0⟩ := Kd.at_int HSz12_0 (ji9) p116 q116; cases e116; replace hx116_0 := pw_cell_below HB.out hx116_0; replace p116 := eq_true p116; replace q116 := eq_true q116; go_wp2; (repeat (go_quiet (fail); try go_wp2)); go_ret; exact ⟨by first | rfl | (simp [errW_none, errW_some] <;> rfl) | (simp only [← hji9]; first | rfl | (simp [errW_none, errW_some] <;> rfl)) | (simp [*, errW_none, errW_some] <;> rfl) | (simp only [IntKind.wrap_u8, show ∀ n_ : Int, wrap64 (n_ % 256) = n_ % 256 from fun n_ => by unfold wrap64; omega]; rfl), spec_l20Rd_pick.s0 HI0.out, spec_l20Rd_pick.s2 HB.out HI0.out, spec_l20Rd_pick.s1 HK.out⟩
     ·rw [if_neg c10] at H; exact absurd H (by simp)
    ·rw [if_neg c8] at H; have c8b0 : decide ((wrap64 ((wrap64 (s0_1 + 1)) - 1)) < (s0_0.length : Int)) = false := decide_eq_false c8; clear c8; by_cases c13 : (s0_0.length : Int) = 0
     ·rw [if_pos c13] at H; exact absurd H (by simp)
     ·rw [if_neg c13] at H; have c13b0 : ((s0_0.length : Int) == 0) = false := beq_eq_false_iff_ne.mpr c13; have c13b1 : ((s0_0.length : Int) != 0) = true := bne_iff_ne.mpr c13; (have c13b2 : ¬ (s0_0 = []) := fun h_ => c13 (by rw [h_]; rfl)); obtain ⟨ji14, hji14⟩ : ∃ j_ : Int, (Int.tmod (wrap64 ((wrap64 (s0_1 + 1)) - 1)) (s0_0.length : Int)) = j_ := ⟨_, rfl⟩; (replace H : (if 0 ≤ (ji14) then (if (ji14) < (s0_0.length : Int) then (if 0 ≤ (Int.tmod (wrap64 ((wrap64 ((wrap64 ((wrap64 (s0_1 + 1)) - 1)) * 7)) + 3)) (s0_0.length : Int)) then (if (Int.tmod (wrap64 ((wrap64 ((wrap64 ((wrap64 (s0_1 + 1)) - 1)) * 7)) + 3)) (s0_0.length : Int)) < (s0_0.length : Int) then (if a1 = 0 then (none) else (some (Int.tmod (Go.bits .xor .i64 (wrap64 ((wrap64 ((wrap64 ((wrap64 ((wrap64 (rd s0_0 (ji14))) * 131)) + (wrap64 ((wrap64 (rd s0_0 (Int.tmod (wrap64 ((wrap64 ((wrap64 ((wrap64 (s0_1 + 1)) - 1)) * 7)) + 3)) (s0_0.length : Int)))) * 1117)))) + (wrap64 ((wrap64 ((wrap64 (s0_1 + 1)) - 1)) * 29)))) + (wrap64 ((wrap64 (Int.tdiv (wrap64 ((wrap64 (s0_1 + 1)) - 1)) (s0_0.length : Int))) * 53)))) (wrap64 (Int.tdiv (wrap64 ((wrap64 ((wrap64 ((wrap64 ((wrap64 (rd s0_0 (ji14))) * 131)) + (wrap64 ((wrap64 (rd s0_0 (Int.tmod (wrap64 ((wrap64 ((wrap64 ((wrap64 (s0_1 + 1)) - 1)) * 7)) + 3)) (s0_0.length : Int)))) * 1117)))) + (wrap64 ((wrap64 ((wrap64 (s0_1 + 1)) - 1)) * 29)))) + (wrap64 ((wrap64 (Int.tdiv (wrap64 ((wrap64 (s0_1 + 1)) - 1)) (s0_0.length : Int))) * 53)))) 64))) a1, (wrap64 (s0_1 + 1))))) else (none)) else (none)) else (none)) else (none)) = some (r1, r2) := by first | (rw [hji14] at H; exact H) | (simp only [hji14] at H ⊢; exact H)); by_cases c15 : 0 ≤ (ji14)
      ·rw [if_pos c15] at H; have c15b0 : decide (0 ≤ (ji14)) = true := decide_eq_true c15; clear c15; by_cases c16 : (ji14) < (s0_0.length : Int)
       ·rw [if_pos c16] at H; have c16b0 : decide ((ji14) < (s0_0.length : Int)) = true := decide_eq_true c16; clear c16; obtain ⟨ji17, hji17⟩ : ∃ j_ : Int, (Int.tmod (wrap64 ((wrap64 ((wrap64 ((wrap64 (s0_1 + 1)) - 1)) * 7)) + 3)) (s0_0.length : Int)) = j_ := ⟨_, rfl⟩; (replace H : (if 0 ≤ (ji17) then (if (ji17) < (s0_0.length : Int) then (if a1 = 0 then (none) else (some (Int.tmod (Go.bits .xor .i64 (wrap64 ((wrap64 ((wrap64 ((wrap64 ((wrap64 (rd s0_0 (ji14))) * 131)) + (wrap64 ((wrap64 (rd s0_0 (ji17))) * 1117)))) + (wrap64 ((wrap64 ((wrap64 (s0_1 + 1)) - 1)) * 29)))) + (wrap64 ((wrap64 (Int.tdiv (wrap64 ((wrap64 (s0_1 + 1)) - 1)) (s0_0.length : Int))) * 53)))) (wrap64 (Int.tdiv (wrap64 ((wrap64 ((wrap64 ((wrap64 ((wrap64 (rd s0_0 (ji14))) * 131)) + (wrap64 ((wrap64 (rd s0_0 (ji17))) * 1117)))) + (wrap64 ((wrap64 ((wrap64 (s0_1 + 1)) - 1)) * 29)))) + (wrap64 ((wrap64 (Int.tdiv (wrap64 ((wrap64 (s0_1 + 1)) - 1)) (s0_0.length : Int))) * 53)))) 64))) a1, (wrap64 (s0_1 + 1))))) else (none)) else (none)) = some (r1, r2) := by first | (rw [hji17] at H; exact H) | (simp only [hji17] at H ⊢; exact H)); by_cases c18 : 0 ≤ (ji17)
        ·rw [if_pos c18] at H; have c18b0 : decide (0 ≤ (ji17)) = true := decide_eq_true c18; clear c18; by_cases c19 : (ji17) < (s0_0.length : Int)
         ·rw [if_pos c19] at H; have c19b0 : decide ((ji17) < (s0_0.length : Int)) = true := decide_eq_true c19; clear c19; by_cases c20 : a1 = 0
          ·rw [if_pos c20] at H; exact absurd H (by simp)
          ·rw [if_neg c20] at H; have c20b0 : (a1 == 0) = false := beq_eq_false_iff_ne.mpr c20; have c20b1 : (a1 != 0) = true := bne_iff_ne.mpr c20; simp only [Option.some.injEq, Prod.mk.injEq] at H; obtain ⟨rfl, rfl⟩ := H; obtain ⟨ASz21_0, cSz21_0, HGz21, hgz21, HSz21_0⟩ := HI0.out; have z21a := cellS147_0 HGz21; have z21b := cellS147_1 HGz21; have f21b := blk_frozen HGz21 1; clear HGz21 hgz21; have p117 : 0 ≤ ((ji14) : Int) := zda; have q117 : (ji14) < (s0_0.length : Int) := zda; obtain ⟨ad117, e117, hx117_0⟩ := Kd.at_int HSz21_0 (ji14) p117 q117; cases e117; replace hx117_0 := pw_cell_below HB.out hx117_0; replace p117 := eq_true p117; replace q117 := eq_true q117; have p118 : 0 ≤ ((ji17) : Int) := zda; have q118 : (ji17) < (s0_0.length : Int) := zda; obtain ⟨ad118, e118, hx118_0⟩ := Kd.at_int HSz21_0 (ji17) p118 q118; (obtain rfl : ad117 = ad118 := (by injection e118)); replace hx118_0 := pw_cell_below HB.out hx118_0; replace p118 := eq_true p118; replace q118 := eq_true q118; go_wp2; (repeat (go_quiet (fail); try go_wp2)); go_ret; exact ⟨by first | rfl | (simp [errW_none, errW_some] <;> rfl) | (simp only [← hji14, ← hji17]; first | rfl | (simp [errW_none, errW_some] <;> rfl)) | (simp [*, errW_none, errW_some] <;> rfl) | (simp only [IntKind.wrap_u8, show ∀ n_ : Int, wrap64 (n_ % 256) = n_ % 256 from fun n_ => by unfold wrap64; omega]; rfl), spec_l20Rd_pick.s0 HI0.out, spec_l20Rd_pick.s2 HB.out HI0.out, spec_l20Rd_pick.s1 HK.out⟩
         ·rw [if_neg c19] at H; exact absurd H (by simp)
        ·rw [if_neg c18] at H; exact absurd H (by simp)
       ·rw [if_neg c16] at H; exact absurd H (by simp)
      ·rw [if_neg c15] at H; exact absurd H (by simp)
/-! ### spec_l1In: function 112 -/
def spec_l1In.f (a0 : Int) (a1 : Int) (a2 : Int) : Option (Bool) := if a0 ≥ a1 then (some (decide (a0 ≤ a2))) else (some false)
set_option maxHeartbeats 8000000 in
set_option maxRecDepth 100000 in
theorem spec_l1In.calls (a0 : Int) (a1 : Int) (a2 : Int) (r : Bool) (w : World) (h : spec_l1In.f a0 a1 a2 = some r) :
    Calls Try.prog 112 #[.int .i64 a0, .int .i64 a1, .int .i64 a2] w fun e w' => e = .returned (.bool r) ∧ Drawn0 w w' := by
 unfold spec_l1In.f at h; have H := h; clear h; by_cases c4 : a0 ≥ a1
 ·rw [if_pos c4] at H; have c4b0 : decide (a1 ≤ a0) = true := decide_eq_true c4; clear c4; obtain rfl := Option.some.inj H; go_enter Try.func112, Try.ntmps112; go_wp2; go_ret; exact ⟨zfe, zdr⟩
 ·rw [if_neg c4] at H; have c4b0 : decide (a1 ≤ a0) = false := decide_eq_false c4; clear c4; obtain rfl := Option.some.inj H; go_enter Try.func112, Try.ntmps112; go_wp2; go_ret; exact ⟨zfe, zdr⟩
/-! ### spec_KeyValid: function 113 -/
def spec_KeyValid.l0 : Nat → ByteArray → Int → Option (Bool)
  | 0, _, _ => none
  | k + 1, a, b => if b < (a.size : Int) then (if 0 ≤ b then (if (bt a b) < 97 then (some false) else (if (bt a b) > 122 then (some false) else (spec_KeyValid.l0 k a (wrap64 (b + 1))))) else (none)) else (some true)
def spec_KeyValid.f (k : Nat) (a0 : ByteArray) : Option (Bool) := (spec_l1In.f (a0.size : Int) 1 4).bind fun t119 => (if t119 = true then (spec_KeyValid.l0 k a0 0) else (some false))
theorem spec_KeyValid.mono_l : ∀ k, (∀ y0 y1, LeO (spec_KeyValid.l0 k y0 y1) (spec_KeyValid.l0 (k + 1) y0 y1))
  | 0 => fun _ _ r h => by simp [spec_KeyValid.l0] at h
  | k + 1 => by
    have ih0 := spec_KeyValid.mono_l k
    · intro y0 y1
      unfold spec_KeyValid.l0
      repeat' with_reducible first | exact ih0 _ _ | exact LeO.refl _ | exact LeO.none _ | refine LeO.ite ?_ ?_ | refine LeO.bind ?_ (fun _ => ?_)
theorem spec_KeyValid.mono : ∀ a0 k, LeO (spec_KeyValid.f k a0) (spec_KeyValid.f (k + 1) a0) := by
 intro a0 k; have ih0 := spec_KeyValid.mono_l k; unfold spec_KeyValid.f; repeat' with_reducible first | exact ih0 _ _ | exact LeO.refl _ | exact LeO.none _ | refine LeO.ite ?_ ?_ | refine LeO.bind ?_ (fun _ => ?_)
set_option maxHeartbeats 8000000 in
set_option maxRecDepth 100000 in
theorem spec_KeyValid.calls (k : Nat) (a0 : ByteArray) (r : Bool) (w : World) (h : spec_KeyValid.f k a0 = some r) :
    Calls Try.prog 113 #[.string a0] w fun e w' => e = .returned (.bool r) ∧ Drawn0 w w' := by
 unfold spec_KeyValid.f at h; have H := h; clear h; obtain ⟨t119, A2, H⟩ := zbd H; (try dsimp only at H); have HC3 := Aside0.mk H; clear H; go_enter Try.func113, Try.ntmps113; (go_upto_if 7 with (first | ((with_reducible refine gate_callee (f := 112) rfl ?_); refine gsl (some 6) rfl Try.func112 #[.int .i64 (a0.size : Int), .int .i64 1, .int .i64 4] rfl ?_; (with_reducible refine (spec_l1In.calls (a0.size : Int) 1 4 t119 _ A2.out).mono ?_); rintro e w' ⟨rfl, ⟨nd, rfl⟩⟩; refine ⟨_, rfl, ?_⟩))); (try simp only [Act.put, List.setIfInBounds_toArray, List.set_cons_zero, List.set_cons_succ]); have H := HC3.out; clear HC3; by_cases c4 : t119 = true
 ·subst c4; rw [if_pos rfl] at H; have H' := Aside0.mk H; clear H; go_wp2; go_loopg [3] k (fun kq v3 w' => ∃ (x3_1 : Int), v3 = .int .i64 x3_1 ∧ Aside0 (spec_KeyValid.l0 kq a0 x3_1 = some r) ∧ Aside0 (kq ≤ k) ∧ Drawn0 w w'); case atStart => exact ⟨(0), zfe, H', ⟨Nat.le_refl _⟩, zdr⟩
  case round =>
   clear H'; (try clear c1); (try clear p2); (try clear c4); obtain ⟨x3_1, rfl, HA, HK1, ⟨m1, rfl⟩⟩ := hrel
   cases gk with
   | zero => exact absurd HA.out (by simp [spec_KeyValid.l0])
   | succ k1 =>
    have H := HA.out; clear HA; simp only [spec_KeyValid.l0] at H; by_cases c5 : x3_1 < (a0.size : Int)
    ·rw [if_pos c5] at H; have c5b0 : decide (x3_1 < (a0.size : Int)) = true := decide_eq_true c5; clear c5; (first | rw [c5b0] | (simp only [i64_w, i32_w]; rw [c5b0]) | skip); by_cases c6 : 0 ≤ x3_1
     ·rw [if_pos c6] at H; have c6b0 : decide (0 ≤ x3_1) = true := decide_eq_true c6; clear c6; by_cases c8 : (bt a0 x3_1) < 97
      ·rw [if_pos c8] at H; have c8b0 : decide ((bt a0 x3_1) < 97) = true := decide_eq_true c8; clear c8; obtain rfl := Option.some.inj H; have p7 : 0 ≤ (x3_1 : Int) := zda; have q7 : x3_1 < (a0.size : Int) := zda; have hx7 := bt_at a0 x3_1; replace p7 := eq_true p7; replace q7 := eq_true q7; go_wp2; go_ret; exact ⟨zfe, zdr⟩
      ·rw [if_neg c8] at H; have c8b0 : decide ((bt a0 x3_1) < 97) = false := decide_eq_false c8; clear c8; by_cases c10 : (bt a0 x3_1) > 122
       ·rw [if_pos c10] at H; have c10b0 : decide (122 < (bt a0 x3_1)) = true := decide_eq_true c10; clear c10; obtain rfl := Option.some.inj H; have p7 : 0 ≤ (x3_1 : Int) := zda; have q7 : x3_1 < (a0.size : Int) := zda; have hx7 := bt_at a0 x3_1; replace p7 := eq_true p7; replace q7 := eq_true q7; have p9 : 0 ≤ (x3_1 : Int) := zda; have q9 : x3_1 < (a0.size : Int) := zda; have hx9 := bt_at a0 x3_1; replace p9 := eq_true p9; replace q9 := eq_true q9; go_wp2; go_ret; exact ⟨zfe, zdr⟩
       ·rw [if_neg c10] at H; have c10b0 : decide (122 < (bt a0 x3_1)) = false := decide_eq_false c10; clear c10; have H' := Aside0.mk H; clear H; have p7 : 0 ≤ (x3_1 : Int) := zda; have q7 : x3_1 < (a0.size : Int) := zda; have hx7 := bt_at a0 x3_1; replace p7 := eq_true p7; replace q7 := eq_true q7; have p9 : 0 ≤ (x3_1 : Int) := zda; have q9 : x3_1 < (a0.size : Int) := zda; have hx9 := bt_at a0 x3_1; replace p9 := eq_true p9; replace q9 := eq_true q9; go_wp2; go_roundg k1; (case measure => have := HK1.out; omega); case rel => exact ⟨(wrap64 (x3_1 + 1)), zfe, H', ⟨by have := HK1.out; omega⟩, zdr⟩
     ·rw [if_neg c6] at H; exact absurd H (by simp)
    ·rw [if_neg c5] at H; have c5b0 : decide (x3_1 < (a0.size : Int)) = false := decide_eq_false c5; clear c5; (first | rw [c5b0] | (simp only [i64_w, i32_w]; rw [c5b0]) | skip); obtain rfl := Option.some.inj H; go_wp2; go_ret; exact ⟨zfe, zdr⟩
 ·replace c4 := Bool.eq_false_iff.mpr c4; subst c4; rw [if_neg zft] at H; obtain rfl := Option.some.inj H; go_wp2; go_ret; exact ⟨zfe, zdr⟩
end Go.Proofs.Ytfeeifefmenlmaa.PFnFeedValid
