-- Written by a program of this session, in the manner of the kit's print (wip/pp.py): functions and their contracts.
import Derived.Test.YtfeeifefmenlmaaPFnFeedFromx0
namespace Go.Proofs.Ytfeeifefmenlmaa.PFnFeedFrom
open Go.RowKit Go.Proofs.YtfeeifefmenlmaaW.PrintWords Go.Proofs.YtfeeifefmenlmaaW.PrintLast Go.Proofs.YtfeeifefmenlmaaW.PrintMore
attribute [local go_sem] binOp_leq_str binOp_gtr_str binOp_geq_str max2_int min2_int max_two min_two max_three min_three max_four min_four Instr.field asAgg   -- for this text's walks alone
set_option maxHeartbeats 8000000
set_option maxRecDepth 100000
set_option linter.unusedVariables false
set_option linter.unusedSimpArgs false

/-! ### impl_lettersOnly: function 127 -/
def impl_lettersOnly.f : Nat → ByteArray → Option (Bool)
  | 0, _ => none
  | k + 1, a0 => if a0.toList = ([] : List UInt8) then (some true) else (if 0 < (a0.size : Int) then (if (bt a0 0) ≥ 97 then (if (bt a0 0) ≤ 122 then (if 1 ≤ (a0.size : Int) then ((impl_lettersOnly.f k (a0.extract 1 a0.size)).bind fun t101 => (some t101)) else (none)) else (some false)) else (some false)) else (none))
theorem impl_lettersOnly.mono_l : ∀ k, (∀ y0, LeO (impl_lettersOnly.f k y0) (impl_lettersOnly.f (k + 1) y0))
  | 0 => fun _ r h => by simp [impl_lettersOnly.f] at h
  | k + 1 => by
    have ih0 := impl_lettersOnly.mono_l k
    · intro y0
      unfold impl_lettersOnly.f
      repeat' with_reducible first | exact ih0 _ | exact lr _ | exact ln _ | apply li | apply lb | intro _
theorem impl_lettersOnly.mono : ∀ a0 k, LeO (impl_lettersOnly.f k a0) (impl_lettersOnly.f (k + 1) a0) := by
 intro a0 k; have ih0 := impl_lettersOnly.mono_l k; exact ih0 a0
theorem impl_lettersOnly.calls (k : Nat) : ∀ (a0 : ByteArray) (r : Bool) (w : World) (h : impl_lettersOnly.f k a0 = some r),
    Calls Try.prog 127 #[.string a0] w fun e w' => e = .returned (.bool r) ∧ Drawn0 w w' := by
 induction k using Nat.strongRecOn with
 | _ k ih =>
 intro a0 r w h
 cases k with
 | zero => exact absurd h (by simp [impl_lettersOnly.f])
 | succ k =>
 simp only [impl_lettersOnly.f] at h; have H : (if a0.toList = ([] : List UInt8) then (some true) else (if 0 < (a0.size : Int) then (if (bt a0 0) ≥ 97 then (if (bt a0 0) ≤ 122 then (if 1 ≤ (a0.size : Int) then ((impl_lettersOnly.f k (a0.extract 1 a0.size)).bind fun t101 => (some t101)) else (none)) else (some false)) else (some false)) else (none))) = some r := h; clear h; by_cases c2 : a0.toList = ([] : List UInt8)
 ·rw [if_pos c2] at H; have c2b0 : (a0.toList == ([] : List UInt8)) = true := beq_iff_eq.mpr c2; have c2b1 : (a0.toList != ([] : List UInt8)) = false := bne_eq_false_iff_eq.mpr c2; clear c2; obtain rfl := Option.some.inj H; go_enter Try.func127, Try.ntmps127; go_wp2; go_ret; exact ⟨zfe, zdr⟩
 ·rw [if_neg c2] at H; have c2b0 : (a0.toList == ([] : List UInt8)) = false := beq_eq_false_iff_ne.mpr c2; have c2b1 : (a0.toList != ([] : List UInt8)) = true := bne_iff_ne.mpr c2; obtain ⟨c3, H⟩ := zin H; have c3b0 := decide_eq_true c3; (have c3b1 : decide (0 < a0.size) = true := decide_eq_true (by omega)); clear c3; by_cases c5 : (bt a0 0) ≥ 97
  ·rw [if_pos c5] at H; have c5b0 : decide (97 ≤ (bt a0 0)) = true := decide_eq_true c5; clear c5; by_cases c7 : (bt a0 0) ≤ 122
   ·rw [if_pos c7] at H; have c7b0 := decide_eq_true c7; clear c7; obtain ⟨c8, H⟩ := zin H; have c8b0 := eq_true c8; have c8b1 := decide_eq_true c8; clear c8; obtain ⟨t101, A9, H⟩ := zbd H; obtain rfl := Option.some.inj H; (have p4 : 0 ≤ (0 : Int) := (by omega)); (have q4 : 0 < a0.size := (by have : (0 : Int) < (a0.size : Int) := zda; omega)); have hx4 : ∀ h : 0 < a0.size, ((a0[0]'h).toNat : Int) = bt a0 0 := bt_at a0 0; clear p4; have qi4 : (0 < (a0.size : Int)) = True := eq_true (zda); replace q4 := eq_true q4; (have p6 : 0 ≤ (0 : Int) := (by omega)); (have q6 : 0 < a0.size := (by have : (0 : Int) < (a0.size : Int) := zda; omega)); have hx6 : ∀ h : 0 < a0.size, ((a0[0]'h).toNat : Int) = bt a0 0 := bt_at a0 0; clear p6; have qi6 : (0 < (a0.size : Int)) = True := eq_true (zda); replace q6 := eq_true q6; go_enter Try.func127, Try.ntmps127; (go_wp2_with (first | (go_at_call 127; (with_reducible refine (ih k (by omega) (a0.extract 1 a0.size) t101 _ A9.o).mono ?_); rintro e w' ⟨rfl, ⟨nd, rfl⟩⟩))); go_ret; exact ⟨zfe, zdr⟩
   ·rw [if_neg c7] at H; have c7b0 := decide_eq_false c7; clear c7; obtain rfl := Option.some.inj H; (have p4 : 0 ≤ (0 : Int) := (by omega)); (have q4 : 0 < a0.size := (by have : (0 : Int) < (a0.size : Int) := zda; omega)); have hx4 : ∀ h : 0 < a0.size, ((a0[0]'h).toNat : Int) = bt a0 0 := bt_at a0 0; clear p4; have qi4 : (0 < (a0.size : Int)) = True := eq_true (zda); replace q4 := eq_true q4; (have p6 : 0 ≤ (0 : Int) := (by omega)); (have q6 : 0 < a0.size := (by have : (0 : Int) < (a0.size : Int) := zda; omega)); have hx6 : ∀ h : 0 < a0.size, ((a0[0]'h).toNat : Int) = bt a0 0 := bt_at a0 0; clear p6; have qi6 : (0 < (a0.size : Int)) = True := eq_true (zda); replace q6 := eq_true q6; go_enter Try.func127, Try.ntmps127; go_wp2; go_ret; exact ⟨zfe, zdr⟩
  ·rw [if_neg c5] at H; have c5b0 : decide (97 ≤ (bt a0 0)) = false := decide_eq_false c5; clear c5; obtain rfl := Option.some.inj H; (have p4 : 0 ≤ (0 : Int) := (by omega)); (have q4 : 0 < a0.size := (by have : (0 : Int) < (a0.size : Int) := zda; omega)); have hx4 : ∀ h : 0 < a0.size, ((a0[0]'h).toNat : Int) = bt a0 0 := bt_at a0 0; clear p4; have qi4 : (0 < (a0.size : Int)) = True := eq_true (zda); replace q4 := eq_true q4; go_enter Try.func127, Try.ntmps127; go_wp2; go_ret; exact ⟨zfe, zdr⟩
/-! ### impl_KeyValid: function 74 -/
def impl_KeyValid.f (k : Nat) (a0 : ByteArray) : Option (Bool) := if (a0.size : Int) < 1 then (some false) else (if (a0.size : Int) > 4 then (some false) else ((impl_lettersOnly.f k a0).bind fun t102 => (some t102)))
theorem impl_KeyValid.mono : ∀ a0 k, LeO (impl_KeyValid.f k a0) (impl_KeyValid.f (k + 1) a0) := by
 intro a0 k; unfold impl_KeyValid.f; repeat' with_reducible first | exact impl_lettersOnly.mono .. | exact lr _ | exact ln _ | apply li | apply lb | intro _
theorem impl_KeyValid.calls {k : Nat} {a0 : ByteArray} {r : Bool} {w : World} (h : impl_KeyValid.f k a0 = some r) :
    Calls Try.prog 74 #[.string a0] w fun e w' => e = .returned (.bool r) ∧ Drawn0 w w' := by
 unfold impl_KeyValid.f at h; have H := h; clear h; by_cases c2 : (a0.size : Int) < 1
 ·rw [if_pos c2] at H; have c2b0 := decide_eq_true c2; (have c2b1 : decide (a0.size < 1) = true := decide_eq_true (by omega)); clear c2; obtain rfl := Option.some.inj H; go_enter Try.func74, Try.ntmps74; go_wp2; go_ret; exact ⟨zfe, zdr⟩
 ·rw [if_neg c2] at H; have c2b0 := decide_eq_false c2; (have c2b1 : decide (a0.size < 1) = false := decide_eq_false (by omega)); clear c2; by_cases c3 : (a0.size : Int) > 4
  ·rw [if_pos c3] at H; have c3b0 : decide (4 < (a0.size : Int)) = true := decide_eq_true c3; (have c3b1 : decide (4 < a0.size) = true := decide_eq_true (by omega)); clear c3; obtain rfl := Option.some.inj H; go_enter Try.func74, Try.ntmps74; go_wp2; go_ret; exact ⟨zfe, zdr⟩
  ·rw [if_neg c3] at H; have c3b0 : decide (4 < (a0.size : Int)) = false := decide_eq_false c3; (have c3b1 : decide (4 < a0.size) = false := decide_eq_false (by omega)); clear c3; obtain ⟨t102, A4, H⟩ := zbd H; obtain rfl := Option.some.inj H; go_enter Try.func74, Try.ntmps74; (go_wp2_with (first | ((with_reducible refine gC 127 rfl ?_); refine gsl (some 12) rfl Try.func127 #[.string a0] rfl ?_; (with_reducible refine (impl_lettersOnly.calls k a0 t102 _ A4.o).mono ?_); rintro e w' ⟨rfl, ⟨nd, rfl⟩⟩; refine ⟨_, rfl, ?_⟩))); go_ret; exact ⟨zfe, zdr⟩
/-! ### impl_keysFrom: function 159 -/
def impl_keysFrom.f : Nat → Int → Option (Int)
  | 0, _ => none
  | k + 1, a0 => if a0 ≥ 4 then (some 1) else ((impl_keysFrom.f k (wrap64 (a0 + 1))).bind fun t103 => (some (wrap64 (1 + (wrap64 (26 * t103))))))
theorem impl_keysFrom.mono_l : ∀ k, (∀ y0, LeO (impl_keysFrom.f k y0) (impl_keysFrom.f (k + 1) y0))
  | 0 => fun _ r h => by simp [impl_keysFrom.f] at h
  | k + 1 => by
    have ih0 := impl_keysFrom.mono_l k
    · intro y0
      unfold impl_keysFrom.f
      repeat' with_reducible first | exact ih0 _ | exact lr _ | exact ln _ | apply li | apply lb | intro _
theorem impl_keysFrom.mono : ∀ a0 k, LeO (impl_keysFrom.f k a0) (impl_keysFrom.f (k + 1) a0) := by
 intro a0 k; have ih0 := impl_keysFrom.mono_l k; exact ih0 a0
theorem impl_keysFrom.calls (k : Nat) : ∀ (a0 : Int) (r : Int) (w : World) (h : impl_keysFrom.f k a0 = some r),
    Calls Try.prog 159 #[.int .i64 a0] w fun e w' => e = .returned (.int .i64 r) ∧ Drawn0 w w' := by
 induction k using Nat.strongRecOn with
 | _ k ih =>
 intro a0 r w h
 cases k with
 | zero => exact absurd h (by simp [impl_keysFrom.f])
 | succ k =>
 simp only [impl_keysFrom.f] at h; have H : (if a0 ≥ 4 then (some 1) else ((impl_keysFrom.f k (wrap64 (a0 + 1))).bind fun t103 => (some (wrap64 (1 + (wrap64 (26 * t103))))))) = some r := h; clear h; by_cases c2 : a0 ≥ 4
 ·rw [if_pos c2] at H; have c2b0 : decide (4 ≤ a0) = true := decide_eq_true c2; clear c2; obtain rfl := Option.some.inj H; go_enter Try.func159, Try.ntmps159; go_wp2; go_ret; exact ⟨zfe, zdr⟩
 ·rw [if_neg c2] at H; have c2b0 : decide (4 ≤ a0) = false := decide_eq_false c2; clear c2; obtain ⟨t103, A3, H⟩ := zbd H; obtain rfl := Option.some.inj H; go_enter Try.func159, Try.ntmps159; (go_wp2_with (first | ((with_reducible refine gC 159 rfl ?_); refine gsl (some 7) rfl Try.func159 #[.int .i64 (wrap64 (a0 + 1))] rfl ?_; (with_reducible refine (ih k (by omega) (wrap64 (a0 + 1)) t103 _ A3.o).mono ?_); rintro e w' ⟨rfl, ⟨nd, rfl⟩⟩; refine ⟨_, rfl, ?_⟩))); go_ret; exact ⟨zfe, zdr⟩
/-! ### impl_rankBelow: function 128 -/
def impl_rankBelow.f : Nat → ByteArray → Int → Option (Int)
  | 0, _, _ => none
  | k + 1, a0, a1 => if a0.toList = ([] : List UInt8) then (some 0) else (if 0 < (a0.size : Int) then ((impl_keysFrom.f k a1).bind fun t104 => (if 1 ≤ (a0.size : Int) then ((impl_rankBelow.f k (a0.extract 1 a0.size) (wrap64 (a1 + 1))).bind fun t105 => (some (wrap64 ((wrap64 (1 + (wrap64 ((((bt a0 0) - 97) % 256) * t104)))) + t105)))) else (none))) else (none))
theorem impl_rankBelow.mono_l : ∀ k, (∀ y0 y1, LeO (impl_rankBelow.f k y0 y1) (impl_rankBelow.f (k + 1) y0 y1))
  | 0 => fun _ _ r h => by simp [impl_rankBelow.f] at h
  | k + 1 => by
    have ih0 := impl_rankBelow.mono_l k
    · intro y0 y1
      unfold impl_rankBelow.f
      repeat' with_reducible first | exact ih0 _ _ | exact impl_keysFrom.mono .. | exact lr _ | exact ln _ | apply li | apply lb | intro _
theorem impl_rankBelow.mono : ∀ a0 a1 k, LeO (impl_rankBelow.f k a0 a1) (impl_rankBelow.f (k + 1) a0 a1) := by
 intro a0 a1 k; have ih0 := impl_rankBelow.mono_l k; exact ih0 a0 a1
def impl_rankBelow.T3 : Bool × List (List Nat × List Nat) := (true, [([], []), ([0], [0]), ([1], [1]), ([2], [2]), ([], []), ([4], [4]), ([3, 5], [3, 5]), ([6], [6]), ([], []), ([8], [8]), ([], []), ([10], [10]), ([9, 11, 5], [9, 11]), ([7, 12], [7, 12]), ([13, 12, 0, 1, 2, 3, 4, 5, 6, 7, 8, 9, 10, 11, 12, 13], [13])])
def impl_rankBelow.B3 : List Nat := [0, 1, 3, 7, 0, 16, 63, 127, 0, 256, 0, 1024, 3888, 8191, 16383]
theorem impl_rankBelow.tab3 : rtab .any (opsOf Try.f128 3) = impl_rankBelow.T3 := by kernel_rfl
theorem impl_rankBelow.bits3 : waitsOk impl_rankBelow.T3.2 impl_rankBelow.B3 = true := by kernel_rfl
def q128m0 : Array Bool := Array.replicate 15 false
def q128m7 : Array Bool := mkB 15 3859
theorem impl_rankBelow.calls (k : Nat) : ∀ (a0 : ByteArray) (a1 : Int) (r : Int) (w : World) (h : impl_rankBelow.f k a0 a1 = some r),
    Calls Try.prog 128 #[.string a0, .int .i64 a1] w fun e w' => e = .returned (.int .i64 r) ∧ Below w.heap.size w w' := by
 induction k using Nat.strongRecOn with
 | _ k ih =>
 intro a0 a1 r w h
 cases k with
 | zero => exact absurd h (by simp [impl_rankBelow.f])
 | succ k =>
 simp only [impl_rankBelow.f] at h; have HB := Zm (Below.refl w.heap.size w); have H : (if a0.toList = ([] : List UInt8) then (some 0) else (if 0 < (a0.size : Int) then ((impl_keysFrom.f k a1).bind fun t104 => (if 1 ≤ (a0.size : Int) then ((impl_rankBelow.f k (a0.extract 1 a0.size) (wrap64 (a1 + 1))).bind fun t105 => (some (wrap64 ((wrap64 (1 + (wrap64 ((((bt a0 0) - 97) % 256) * t104)))) + t105)))) else (none))) else (none))) = some r := h; clear h; by_cases c3 : a0.toList = ([] : List UInt8)
 ·rw [if_pos c3] at H; have c3b0 : (a0.toList == ([] : List UInt8)) = true := beq_iff_eq.mpr c3; have c3b1 : (a0.toList != ([] : List UInt8)) = false := bne_eq_false_iff_eq.mpr c3; clear c3; obtain rfl := Option.some.inj H; go_enter Try.func128, Try.ntmps128; go_wp2; go_ret; exact ⟨fe, bp HB.o⟩
 ·rw [if_neg c3] at H; have c3b0 : (a0.toList == ([] : List UInt8)) = false := beq_eq_false_iff_ne.mpr c3; have c3b1 : (a0.toList != ([] : List UInt8)) = true := bne_iff_ne.mpr c3; obtain ⟨c4, H⟩ := zin H; have c4b0 := decide_eq_true c4; (have c4b1 : decide (0 < a0.size) = true := decide_eq_true (by omega)); clear c4; obtain ⟨t104, A6, H⟩ := zbd H; obtain ⟨c7, H⟩ := zin H; have c7b0 := eq_true c7; have c7b1 := decide_eq_true c7; clear c7; obtain ⟨t105, A8, H⟩ := zbd H; obtain rfl := Option.some.inj H; go_enter Try.func128, Try.ntmps128; (try go_wp2); have n0_ := Zm (below_drew1 HB.o); clear HB; have HB := n0_; clear n0_; (have p5 : 0 ≤ (0 : Int) := (by omega)); (have q5 : 0 < a0.size := (by have : (0 : Int) < (a0.size : Int) := zda; omega)); have hx5 : ∀ h : 0 < a0.size, ((a0[0]'h).toNat : Int) = bt a0 0 := bt_at a0 0; clear p5; have qi5 : (0 < (a0.size : Int)) = True := eq_true (zda); replace q5 := eq_true q5; (refine start_ (n := 15) (S := fun w' => True) (ds := []) q128m0 (by kernel_rfl) rfl rfl trivial (fun hHeld => ?_); refine with_tabW impl_rankBelow.tab3 impl_rankBelow.bits3 (fun HT_ HW_ => ?_)); generalize w.drew = w9 at HB hHeld ⊢; refine zP 0 ?_; refine zP 4 ?_; refine zP 8 ?_; refine zP 9 ?_; refine zP 10 ?_; refine zP 11 ?_; (refine take_ (i := 1) (N := some 8) (v := ?_) (a' := ?_) q128m7 rfl rfl (take_ofW HT_.o HW_.o (by kernel_rfl)) (fun _ _ _ h => h) (Or.inl ⟨by rfl, ?_⟩) hHeld ?_ ?_); rotate_left
  ·intro w' _; go_simp; with_reducible rfl
  (rotate_left; focus (simp only [zap, i64_w, i32_w]; rfl)); refine zP 2 ?_; refine zP 3 ?_; refine zN 5 (fun K hK => ?_); refine gos Try.func159 #[.int .i64 a1] rfl ?_; (with_reducible refine (impl_keysFrom.calls k a1 t104 _ A6.o).mono ?_); rintro e w' ⟨rfl, ⟨nd, rfl⟩⟩; refine ⟨_, rfl, ?_⟩; refine hK.out _ _ trivial (fun hHeld => ?_); clear hK K; refine norm_ (a' := ?_) ?_ ?_; rotate_left
  ·show Act.put _ (some 12) _ = _; simp only [zap, i64_w, i32_w]; rfl
  refine zP 6 ?_; refine zP 7 ?_; refine zN 12 (fun K hK => ?_); refine gos Try.func128 #[.string (a0.extract 1 a0.size), .int .i64 (wrap64 (a1 + 1))] rfl ?_; (with_reducible refine (ih k (by omega) (a0.extract 1 a0.size) (wrap64 (a1 + 1)) t105 _ A8.o).mono ?_); rintro e w10 ⟨rfl, hb⟩; refine ⟨_, rfl, ?_⟩; have n0_ := an0 HB hb; clear HB; have HB := n0_; clear n0_; clear hb; refine hK.out _ _ trivial (fun hHeld => ?_); clear hK K; refine norm_ (a' := ?_) ?_ ?_; rotate_left
  ·show Act.put _ (some 19) _ = _; simp only [zap, i64_w, i32_w]; rfl
  refine zP 13 ?_; refine zP 14 ?_; (refine done_ (done_of HT_.o (by kernel_rfl)) ?_); (try go_wp2); go_ret; exact ⟨fe, bp HB.o⟩
/-! ### impl_KeyRank: function 76 -/
def impl_KeyRank.f (k : Nat) (a0 : ByteArray) : Option (Int) := (impl_KeyValid.f k a0).bind fun t106 => (if t106 = true then ((impl_rankBelow.f k a0 1).bind fun t107 => (some (wrap64 (t107 - 1)))) else (some (-1)))
theorem impl_KeyRank.mono : ∀ a0 k, LeO (impl_KeyRank.f k a0) (impl_KeyRank.f (k + 1) a0) := by
 intro a0 k; unfold impl_KeyRank.f; repeat' with_reducible first | exact impl_KeyValid.mono .. | exact impl_rankBelow.mono .. | exact lr _ | exact ln _ | apply li | apply lb | intro _
theorem impl_KeyRank.calls {k : Nat} {a0 : ByteArray} {r : Int} {w : World} (h : impl_KeyRank.f k a0 = some r) :
    Calls Try.prog 76 #[.string a0] w fun e w' => e = .returned (.int .i64 r) ∧ Below w.heap.size w w' := by
 have HB := Zm (Below.refl w.heap.size w); unfold impl_KeyRank.f at h; have H := h; clear h; obtain ⟨t106, A2, H⟩ := zbd H; have HC3 := Zm H; clear H; go_enter Try.func76, Try.ntmps76; (go_upto_if 5 with (first | ((with_reducible refine gC 74 rfl ?_); refine gsl (some 4) rfl Try.func74 #[.string a0] rfl ?_; (with_reducible refine (impl_KeyValid.calls A2.o).mono ?_); rintro e w' ⟨rfl, ⟨nd, rfl⟩⟩; refine ⟨_, rfl, ?_⟩))); (try simp only [zap]); have H := HC3.o; clear HC3; by_cases c4 : t106 = true
 ·subst c4; rw [if_pos rfl] at H; obtain ⟨t107, A5, H⟩ := zbd H; obtain rfl := Option.some.inj H; (go_wp2_with (first | ((with_reducible refine gC 128 rfl ?_); refine gsl (some 7) rfl Try.func128 #[.string a0, .int .i64 1] rfl ?_; (with_reducible refine (impl_rankBelow.calls k a0 1 t107 _ A5.o).mono ?_); rintro e w6 ⟨rfl, hb⟩; refine ⟨_, rfl, ?_⟩; replace HB := an0 HB hb; clear hb))); go_ret; exact ⟨fe, bp HB.o⟩
 ·replace c4 := Bool.eq_false_iff.mpr c4; subst c4; rw [if_neg zft] at H; obtain rfl := Option.some.inj H; go_wp2; go_ret; exact ⟨fe, bp HB.o⟩
/-! ### laws_alive: function 18 -/
def laws_alive.f (k : Nat)  : Option (Bool) := (impl_KeyRank.f k (⟨#[97, 97]⟩ : ByteArray)).bind fun t108 => (if t108 = 1 then ((impl_KeyRank.f k (⟨#[]⟩ : ByteArray)).bind fun t109 => (some (t109 == (-1)))) else (some false))
theorem laws_alive.mono : ∀ k, LeO (laws_alive.f k ) (laws_alive.f (k + 1) ) := by
 intro  k; unfold laws_alive.f; repeat' with_reducible first | exact impl_KeyRank.mono .. | exact lr _ | exact ln _ | apply li | apply lb | intro _
theorem laws_alive.calls {k : Nat}  {r : Bool} {w : World} (h : laws_alive.f k  = some r) :
    Calls Try.prog 18 #[] w fun e w' => e = .returned (.bool r) ∧ Below w.heap.size w w' := by
 have HB := Zm (Below.refl w.heap.size w); unfold laws_alive.f at h; have H := h; clear h; obtain ⟨t108, A1, H⟩ := zbd H; by_cases c2 : t108 = 1
 ·rw [if_pos c2] at H; have c2b0 : (t108 == 1) = true := beq_iff_eq.mpr c2; have c2b1 : (t108 != 1) = false := bne_eq_false_iff_eq.mpr c2; clear c2; obtain ⟨t109, A3, H⟩ := zbd H; obtain rfl := Option.some.inj H; go_enter Try.func18, Try.ntmps18; (go_wp2_with (first | ((with_reducible refine gC 76 rfl ?_); refine gsl (some 1) rfl Try.func76 #[.string (⟨#[97, 97]⟩ : ByteArray)] rfl ?_; (with_reducible refine (impl_KeyRank.calls A1.o).mono ?_); rintro e w4 ⟨rfl, hb⟩; refine ⟨_, rfl, ?_⟩; replace HB := an0 HB hb; clear hb) | (go_at_call 76; (with_reducible refine (impl_KeyRank.calls A3.o).mono ?_); rintro e w5 ⟨rfl, hb⟩; replace HB := an0 HB hb; clear hb))); go_ret; exact ⟨fe, bp HB.o⟩
 ·rw [if_neg c2] at H; have c2b0 : (t108 == 1) = false := beq_eq_false_iff_ne.mpr c2; have c2b1 : (t108 != 1) = true := bne_iff_ne.mpr c2; obtain rfl := Option.some.inj H; go_enter Try.func18, Try.ntmps18; (go_wp2_with (first | ((with_reducible refine gC 76 rfl ?_); refine gsl (some 1) rfl Try.func76 #[.string (⟨#[97, 97]⟩ : ByteArray)] rfl ?_; (with_reducible refine (impl_KeyRank.calls A1.o).mono ?_); rintro e w6 ⟨rfl, hb⟩; refine ⟨_, rfl, ?_⟩; replace HB := an0 HB hb; clear hb))); go_ret; exact ⟨fe, bp HB.o⟩
/-! ### impl_valueValid: function 75 -/
def impl_valueValid.f (a0 : Int) : Option (Bool) := if a0 ≥ 0 then (some (decide (a0 ≤ 999))) else (some false)
theorem impl_valueValid.calls {a0 : Int} {r : Bool} {w : World} (h : impl_valueValid.f a0 = some r) :
    Calls Try.prog 75 #[.int .i64 a0] w fun e w' => e = .returned (.bool r) ∧ Drawn0 w w' := by
 unfold impl_valueValid.f at h; have H := h; clear h; by_cases c2 : a0 ≥ 0
 ·rw [if_pos c2] at H; have c2b0 : decide (0 ≤ a0) = true := decide_eq_true c2; clear c2; obtain rfl := Option.some.inj H; go_enter Try.func75, Try.ntmps75; go_wp2; go_ret; exact ⟨zfe, zdr⟩
 ·rw [if_neg c2] at H; have c2b0 : decide (0 ≤ a0) = false := decide_eq_false c2; clear c2; obtain rfl := Option.some.inj H; go_enter Try.func75, Try.ntmps75; go_wp2; go_ret; exact ⟨zfe, zdr⟩
/-! ### impl_FeedValid: function 51 -/
mutual
def impl_FeedValid.l0 : Nat → List (S75) → List (S75) → Int → Int → Option (Bool)
  | 0, _, _, _, _ => none
  | k + 1, a, b, c, d => if d < c then (if 0 ≤ d then (if d < (b.length : Int) then (if ((rd_T75 b d).f0) < 0 then (impl_FeedValid.j1 k a d b c d true ((rd_T75 b d).f0) ((rd_T75 b d).f1) ((rd_T75 b d).f2) ((rd_T75 b d).f3)) else (if ((rd_T75 b d).f0) ≥ 24 then (impl_FeedValid.j1 k a d b c d true ((rd_T75 b d).f0) ((rd_T75 b d).f1) ((rd_T75 b d).f2) ((rd_T75 b d).f3)) else ((impl_KeyValid.f k ((rd_T75 b d).f1)).bind fun t112 => (if t112 = true then (impl_FeedValid.j1 k a d b c d (((rd_T75 b d).f2) == ((rd_T75 b d).f3)) ((rd_T75 b d).f0) ((rd_T75 b d).f1) ((rd_T75 b d).f2) ((rd_T75 b d).f3)) else (impl_FeedValid.j1 k a d b c d true ((rd_T75 b d).f0) ((rd_T75 b d).f1) ((rd_T75 b d).f2) ((rd_T75 b d).f3)))))) else (none)) else (none)) else (some true)
def impl_FeedValid.j1 : Nat → List (S75) → Int → List (S75) → Int → Int → Bool → Int → ByteArray → Int → Int → Option (Bool)
  | 0, _, _, _, _, _, _, _, _, _, _ => none
  | k + 1, a, b, c, d, e, g, i, j, l, m => if g = true then (some false) else (if l = (-1) then (if m = (-1) then (impl_FeedValid.j2 k a b c d e false i j l m) else ((impl_valueValid.f m).bind fun t113 => (impl_FeedValid.j2 k a b c d e (!t113) i j l m))) else ((impl_valueValid.f l).bind fun t114 => (if t114 = true then (if m = (-1) then (impl_FeedValid.j2 k a b c d e false i j l m) else ((impl_valueValid.f m).bind fun t115 => (impl_FeedValid.j2 k a b c d e (!t115) i j l m))) else (impl_FeedValid.j2 k a b c d e true i j l m))))
def impl_FeedValid.j2 : Nat → List (S75) → Int → List (S75) → Int → Int → Bool → Int → ByteArray → Int → Int → Option (Bool)
  | 0, _, _, _, _, _, _, _, _, _, _ => none
  | k + 1, a, b, c, d, e, f, g, i, j, l => if f = true then (some false) else (if b > 0 then (if 0 ≤ (wrap64 (b - 1)) then (if (wrap64 (b - 1)) < (a.length : Int) then (if ((rd_T75 a (wrap64 (b - 1))).f0) ≥ g then (some false) else (impl_FeedValid.l0 k a c d (wrap64 (e + 1)))) else (none)) else (none)) else (impl_FeedValid.l0 k a c d (wrap64 (e + 1))))
end
def impl_FeedValid.f (k : Nat) (l0 : List (S75)) : Option (Bool) := if (l0.length : Int) > 24 then (some false) else (impl_FeedValid.l0 k l0 l0 (l0.length : Int) 0)
theorem impl_FeedValid.mono_l : ∀ k, (∀ y0 y1 y2 y3, LeO (impl_FeedValid.l0 k y0 y1 y2 y3) (impl_FeedValid.l0 (k + 1) y0 y1 y2 y3)) ∧ (∀ y0 y1 y2 y3 y4 y5 y6 y7 y8 y9, LeO (impl_FeedValid.j1 k y0 y1 y2 y3 y4 y5 y6 y7 y8 y9) (impl_FeedValid.j1 (k + 1) y0 y1 y2 y3 y4 y5 y6 y7 y8 y9)) ∧ (∀ y0 y1 y2 y3 y4 y5 y6 y7 y8 y9, LeO (impl_FeedValid.j2 k y0 y1 y2 y3 y4 y5 y6 y7 y8 y9) (impl_FeedValid.j2 (k + 1) y0 y1 y2 y3 y4 y5 y6 y7 y8 y9))
  | 0 => ⟨fun _ _ _ _ r h => by simp [impl_FeedValid.l0] at h, fun _ _ _ _ _ _ _ _ _ _ r h => by simp [impl_FeedValid.j1] at h, fun _ _ _ _ _ _ _ _ _ _ r h => by simp [impl_FeedValid.j2] at h⟩
  | k + 1 => by
    obtain ⟨ih0, ih1, ih2⟩ := impl_FeedValid.mono_l k
    refine ⟨?_, ?_, ?_⟩
    · intro y0 y1 y2 y3
      unfold impl_FeedValid.l0
      repeat' with_reducible first | exact ih0 _ _ _ _ | exact ih1 .. | exact ih2 .. | exact impl_KeyValid.mono .. | exact lr _ | exact ln _ | apply li | apply lb | intro _
    · intro y0 y1 y2 y3 y4 y5 y6 y7 y8 y9
      unfold impl_FeedValid.j1
      repeat' with_reducible first | exact ih0 _ _ _ _ | exact ih1 .. | exact ih2 .. | exact impl_KeyValid.mono .. | exact lr _ | exact ln _ | apply li | apply lb | intro _
    · intro y0 y1 y2 y3 y4 y5 y6 y7 y8 y9
      unfold impl_FeedValid.j2
      repeat' with_reducible first | exact ih0 _ _ _ _ | exact ih1 .. | exact ih2 .. | exact impl_KeyValid.mono .. | exact lr _ | exact ln _ | apply li | apply lb | intro _
theorem impl_FeedValid.mono : ∀ a0 k, LeO (impl_FeedValid.f k a0) (impl_FeedValid.f (k + 1) a0) := by
 intro a0 k; obtain ⟨ih0, ih1, ih2⟩ := impl_FeedValid.mono_l k; unfold impl_FeedValid.f; repeat' with_reducible first | exact ih0 _ _ _ _ | exact ih1 .. | exact ih2 .. | exact impl_KeyValid.mono .. | exact lr _ | exact ln _ | apply li | apply lb | intro _
theorem impl_FeedValid.calls {k : Nat} {A0 : Option Addr} {c0 : Nat} {l0 : List (S75)} {r : Bool} {w : World} (hr0 : Kd.C k75 w A0 l0.length l0) (hc0 : l0.length ≤ c0) (h : impl_FeedValid.f k l0 = some r) :
    Calls Try.prog 51 #[.slice A0 l0.length c0] w fun e w' => e = .returned (.bool r) ∧ Below w.heap.size w w' := by
 have hu75 := Try.underlying75; have HR0 := Zm hr0; have HC0 := Zm hc0; clear hr0 hc0; have HB := Zm (Below.refl w.heap.size w); unfold impl_FeedValid.f at h; have H := h; clear h; by_cases c2 : (l0.length : Int) > 24
 ·rw [if_pos c2] at H; have c2b0 : decide (24 < (l0.length : Int)) = true := decide_eq_true c2; (have c2b1 : decide (24 < l0.length) = true := decide_eq_true (by omega)); clear c2; obtain rfl := Option.some.inj H; go_enter Try.func51, Try.ntmps51; go_wp2; (repeat (go_quiet (fail); try go_wp2)); go_ret; exact ⟨fe, bp HB.o⟩
 ·rw [if_neg c2] at H; have c2b0 : decide (24 < (l0.length : Int)) = false := decide_eq_false c2; (have c2b1 : decide (24 < l0.length) = false := decide_eq_false (by omega)); clear c2; have H' := Aside0.mk H; clear H; go_enter Try.func51, Try.ntmps51; go_wp2; (repeat (go_quiet (fail); try go_wp2)); go_loopg [10] k (fun kq v10 w' => ∃ (x10_1 : Int), v10 = .int .i64 x10_1 ∧ Aside0 (impl_FeedValid.l0 kq l0 l0 (l0.length : Int) x10_1 = some r) ∧ Aside0 (kq ≤ k) ∧ Aside0 (Below w.heap.size w w')); case atStart => exact ⟨(0), zfe, H', ⟨Nat.le_refl _⟩, (bP HB)⟩
  case round =>
   clear H'; (try clear c2); (try clear c2b0); (try clear c2b1); (try clear p2); obtain ⟨x10_1, rfl, HA, HK1, HB⟩ := hrel
   cases gk with
   | zero => nomatch HA.o
   | succ k1 =>
    have H := HA.o; clear HA; simp only [impl_FeedValid.l0] at H; by_cases c3 : x10_1 < (l0.length : Int)
    ·rw [if_pos c3] at H; have c3b0 := decide_eq_true c3; clear c3; obtain ⟨c4, H⟩ := zin H; have c4b0 := decide_eq_true c4; clear c4; obtain ⟨c5, H⟩ := zin H; have c5b0 := decide_eq_true c5; clear c5; have HC6 := Zm H; clear H; have p110 : 0 ≤ (x10_1 : Int) := zda; have q110 : x10_1 < (l0.length : Int) := zda; obtain ⟨ad110, e110, hx110_0, hx110_1, hx110_2, hx110_3⟩ := at_T75 HR0.o x10_1 p110 q110; cases e110; replace hx110_0 := hcx HB hx110_0; replace hx110_1 := hcx HB hx110_1; replace hx110_2 := hcx HB hx110_2; replace hx110_3 := hcx HB hx110_3; replace p110 := eq_true p110; replace q110 := eq_true q110; (go_upto_region 6 with (first | ((with_reducible refine gD 4 rfl ?_); refine bxe (N := 4) (cs := #[.int .i64 0, .string (⟨#[]⟩ : ByteArray), .int .i64 0, .int .i64 0]) (t := 75) ?_; intro gb111 hg w7 hbox hb; have BK111 := Zm (hbox); have GW111 := an2 HB hg; have GE111 := an2 HB hg; replace HB := an0 HB hb; clear hb hbox hg; have z8 := cl4 BK111))); (repeat (go_quiet (first | ((with_reducible refine gD 4 rfl ?_); refine bxe (N := 4) (cs := #[.int .i64 0, .string (⟨#[]⟩ : ByteArray), .int .i64 0, .int .i64 0]) (t := 75) ?_; intro gb111 hg w7 hbox hb; have BK111 := Zm (hbox); have GW111 := an2 HB hg; have GE111 := an2 HB hg; replace HB := an0 HB hb; clear hb hbox hg; have z8 := cl4 BK111)); go_upto_region 6 with (first | ((with_reducible refine gD 4 rfl ?_); refine bxe (N := 4) (cs := #[.int .i64 0, .string (⟨#[]⟩ : ByteArray), .int .i64 0, .int .i64 0]) (t := 75) ?_; intro gb111 hg w7 hbox hb; have BK111 := Zm (hbox); have GW111 := an2 HB hg; have GE111 := an2 HB hg; replace HB := an0 HB hb; clear hb hbox hg; have z8 := cl4 BK111)))); (try simp only [zap]); go_cut [35] (fun v35 wc => ∃ (kq : Nat) (x35_5 : Bool), v35 = .bool x35_5 ∧ Aside0 (impl_FeedValid.j1 kq l0 x10_1 l0 (l0.length : Int) x10_1 x35_5 ((rd_T75 l0 x10_1).f0) ((rd_T75 l0 x10_1).f1) ((rd_T75 l0 x10_1).f2) ((rd_T75 l0 x10_1).f3) = some r) ∧ Aside0 (kq ≤ k1) ∧ Aside0 (wc.heap[gb111]? = some (.cells #[.int .i64 ((rd_T75 l0 x10_1).f0), .string ((rd_T75 l0 x10_1).f1), .int .i64 ((rd_T75 l0 x10_1).f2), .int .i64 ((rd_T75 l0 x10_1).f3)] 75 (0, 0))) ∧ Aside0 (Below w.heap.size w wc))
     case first =>
      have H := HC6.o; clear HC6; by_cases c9 : ((rd_T75 l0 x10_1).f0) < 0
      ·rw [if_pos c9] at H; have c9b0 := decide_eq_true c9; clear c9; (first | rw [c9b0] | (simp only [i64_w, i32_w]; rw [c9b0]) | skip); have H' := Aside0.mk H; clear H; have z10 := cl4 BK111; go_wp2; (repeat (go_quiet (fail); try go_wp2)); go_meet; case rel => exact ⟨_, (true), zfe, H', ⟨by have := HK1.o; first | omega | exact Nat.le_refl _⟩, ⟨by exact zb0 BK111.o⟩, (bP HB)⟩
      ·rw [if_neg c9] at H; have c9b0 := decide_eq_false c9; clear c9; (first | rw [c9b0] | (simp only [i64_w, i32_w]; rw [c9b0]) | skip); by_cases c11 : ((rd_T75 l0 x10_1).f0) ≥ 24
       ·rw [if_pos c11] at H; have c11b0 : decide (24 ≤ ((rd_T75 l0 x10_1).f0)) = true := decide_eq_true c11; clear c11; have H' := Aside0.mk H; clear H; have z12 := cl4 BK111; go_wp2; (repeat (go_quiet (fail); try go_wp2)); go_meet; case rel => exact ⟨_, (true), zfe, H', ⟨by have := HK1.o; first | omega | exact Nat.le_refl _⟩, ⟨by exact zb0 BK111.o⟩, (bP HB)⟩
       ·rw [if_neg c11] at H; have c11b0 : decide (24 ≤ ((rd_T75 l0 x10_1).f0)) = false := decide_eq_false c11; clear c11; obtain ⟨t112, A13, H⟩ := zbd H; by_cases c14 : t112 = true
        ·subst c14; rw [if_pos rfl] at H; have H' := Aside0.mk H; clear H; have z15 := cl4 BK111; (go_wp2_with (first | (go_at_call 74; (with_reducible refine (impl_KeyValid.calls A13.o).mono ?_); rintro e w' ⟨rfl, ⟨nd, rfl⟩⟩; (try exact zdd)))); (repeat (go_quiet (first | (go_at_call 74; (with_reducible refine (impl_KeyValid.calls A13.o).mono ?_); rintro e w' ⟨rfl, ⟨nd, rfl⟩⟩; (try exact zdd))); try go_wp2_with (first | (go_at_call 74; (with_reducible refine (impl_KeyValid.calls A13.o).mono ?_); rintro e w' ⟨rfl, ⟨nd, rfl⟩⟩; (try exact zdd))))); go_meet; case rel => exact ⟨_, ((((rd_T75 l0 x10_1).f2) == ((rd_T75 l0 x10_1).f3))), zfe, H', ⟨by have := HK1.o; first | omega | exact Nat.le_refl _⟩, ⟨by exact zb0 BK111.o⟩, (bP HB)⟩
        ·replace c14 := Bool.eq_false_iff.mpr c14; subst c14; rw [if_neg zft] at H; have H' := Aside0.mk H; clear H; have z16 := cl4 BK111; (go_wp2_with (first | (go_at_call 74; (with_reducible refine (impl_KeyValid.calls A13.o).mono ?_); rintro e w' ⟨rfl, ⟨nd, rfl⟩⟩; (try exact zdd)))); (repeat (go_quiet (first | (go_at_call 74; (with_reducible refine (impl_KeyValid.calls A13.o).mono ?_); rintro e w' ⟨rfl, ⟨nd, rfl⟩⟩; (try exact zdd))); try go_wp2_with (first | (go_at_call 74; (with_reducible refine (impl_KeyValid.calls A13.o).mono ?_); rintro e w' ⟨rfl, ⟨nd, rfl⟩⟩; (try exact zdd))))); go_meet; case rel => exact ⟨_, (true), zfe, H', ⟨by have := HK1.o; first | omega | exact Nat.le_refl _⟩, ⟨by exact zb0 BK111.o⟩, (bP HB)⟩
     case rest =>
      clear HC6; (try clear c2); (try clear c2b0); (try clear c2b1); (try clear c3); (try clear c3b0); (try clear c4); (try clear c4b0); (try clear c5); (try clear c5b0); (try clear z8); (try clear hx110_0); (try clear hx110_1); (try clear hx110_2); (try clear hx110_3); (try clear p110); (try clear q110); obtain ⟨kq, x35_5, rfl, HA, HJ5, BK111, HB⟩ := hcut
      cases kq with
      | zero => nomatch HA.o
      | succ kj5 =>
       have H := HA.o; clear HA; simp only [impl_FeedValid.j1] at H; by_cases c17 : x35_5 = true
       ·subst c17; rw [if_pos rfl] at H; obtain rfl := Option.some.inj H; go_wp2; (repeat (go_quiet (fail); try go_wp2)); go_ret; exact ⟨fe, bp HB.o⟩
       ·replace c17 := Bool.eq_false_iff.mpr c17; subst c17; rw [if_neg zft] at H; have HC18 := Zm H; clear H; go_upto_region 8 with (fail); (repeat (go_quiet (fail); go_upto_region 8 with (fail))); go_cut [55] (fun v55 wc => ∃ (kq : Nat) (x55_17 : Bool), v55 = .bool x55_17 ∧ Aside0 (impl_FeedValid.j2 kq l0 x10_1 l0 (l0.length : Int) x10_1 x55_17 ((rd_T75 l0 x10_1).f0) ((rd_T75 l0 x10_1).f1) ((rd_T75 l0 x10_1).f2) ((rd_T75 l0 x10_1).f3) = some r) ∧ Aside0 (kq ≤ kj5) ∧ Aside0 (wc.heap[gb111]? = some (.cells #[.int .i64 ((rd_T75 l0 x10_1).f0), .string ((rd_T75 l0 x10_1).f1), .int .i64 ((rd_T75 l0 x10_1).f2), .int .i64 ((rd_T75 l0 x10_1).f3)] 75 (0, 0))) ∧ Aside0 (Below w.heap.size w wc))
        case first =>
         have H := HC18.o; clear HC18; by_cases c19 : ((rd_T75 l0 x10_1).f2) = (-1)
         ·rw [if_pos c19] at H; have c19b0 : (((rd_T75 l0 x10_1).f2) == (-1)) = true := beq_iff_eq.mpr c19; have c19b1 : (((rd_T75 l0 x10_1).f2) != (-1)) = false := bne_eq_false_iff_eq.mpr c19; clear c19; (first | rw [c19b0] | (simp only [i64_w, i32_w]; rw [c19b0]) | skip); by_cases c20 : ((rd_T75 l0 x10_1).f3) = (-1)
          ·rw [if_pos c20] at H; have c20b0 : (((rd_T75 l0 x10_1).f3) == (-1)) = true := beq_iff_eq.mpr c20; have c20b1 : (((rd_T75 l0 x10_1).f3) != (-1)) = false := bne_eq_false_iff_eq.mpr c20; clear c20; have H' := Aside0.mk H; clear H; have z21 := cl4 BK111; go_wp2; (repeat (go_quiet (fail); try go_wp2)); go_meet; case rel => exact ⟨_, (false), zfe, H', ⟨by have := HK1.o; have := HJ5.o; first | omega | exact Nat.le_refl _⟩, (kB BK111), (bP HB)⟩
          ·rw [if_neg c20] at H; have c20b0 : (((rd_T75 l0 x10_1).f3) == (-1)) = false := beq_eq_false_iff_ne.mpr c20; have c20b1 : (((rd_T75 l0 x10_1).f3) != (-1)) = true := bne_iff_ne.mpr c20; obtain ⟨t113, A22, H⟩ := zbd H; have H' := Aside0.mk H; clear H; have z23 := cl4 BK111; (go_wp2_with (first | (go_at_call 75; (with_reducible refine (impl_valueValid.calls A22.o).mono ?_); rintro e w' ⟨rfl, ⟨nd, rfl⟩⟩; (try exact zdd)))); (repeat (go_quiet (first | (go_at_call 75; (with_reducible refine (impl_valueValid.calls A22.o).mono ?_); rintro e w' ⟨rfl, ⟨nd, rfl⟩⟩; (try exact zdd))); try go_wp2_with (first | (go_at_call 75; (with_reducible refine (impl_valueValid.calls A22.o).mono ?_); rintro e w' ⟨rfl, ⟨nd, rfl⟩⟩; (try exact zdd))))); go_meet; case rel => exact ⟨_, (!t113), zfe, H', ⟨by have := HK1.o; have := HJ5.o; first | omega | exact Nat.le_refl _⟩, (kB BK111), (bP HB)⟩
         ·rw [if_neg c19] at H; have c19b0 : (((rd_T75 l0 x10_1).f2) == (-1)) = false := beq_eq_false_iff_ne.mpr c19; have c19b1 : (((rd_T75 l0 x10_1).f2) != (-1)) = true := bne_iff_ne.mpr c19; (first | rw [c19b0] | (simp only [i64_w, i32_w]; rw [c19b0]) | skip); obtain ⟨t114, A24, H⟩ := zbd H; by_cases c25 : t114 = true
          ·subst c25; rw [if_pos rfl] at H; by_cases c26 : ((rd_T75 l0 x10_1).f3) = (-1)
           ·rw [if_pos c26] at H; have c26b0 : (((rd_T75 l0 x10_1).f3) == (-1)) = true := beq_iff_eq.mpr c26; have c26b1 : (((rd_T75 l0 x10_1).f3) != (-1)) = false := bne_eq_false_iff_eq.mpr c26; clear c26; have H' := Aside0.mk H; clear H; have z27 := cl4 BK111; (go_wp2_with (first | (go_at_call 75; (with_reducible refine (impl_valueValid.calls A24.o).mono ?_); rintro e w' ⟨rfl, ⟨nd, rfl⟩⟩; (try exact zdd)))); (repeat (go_quiet (first | (go_at_call 75; (with_reducible refine (impl_valueValid.calls A24.o).mono ?_); rintro e w' ⟨rfl, ⟨nd, rfl⟩⟩; (try exact zdd))); try go_wp2_with (first | (go_at_call 75; (with_reducible refine (impl_valueValid.calls A24.o).mono ?_); rintro e w' ⟨rfl, ⟨nd, rfl⟩⟩; (try exact zdd))))); go_meet; case rel => exact ⟨_, (false), zfe, H', ⟨by have := HK1.o; have := HJ5.o; first | omega | exact Nat.le_refl _⟩, (kB BK111), (bP HB)⟩
           ·rw [if_neg c26] at H; have c26b0 : (((rd_T75 l0 x10_1).f3) == (-1)) = false := beq_eq_false_iff_ne.mpr c26; have c26b1 : (((rd_T75 l0 x10_1).f3) != (-1)) = true := bne_iff_ne.mpr c26; obtain ⟨t115, A28, H⟩ := zbd H; have H' := Aside0.mk H; clear H; have z29 := cl4 BK111; (go_wp2_with (first | (go_at_call 75; (with_reducible refine (impl_valueValid.calls A24.o).mono ?_); rintro e w' ⟨rfl, ⟨nd, rfl⟩⟩; (try exact zdd)) | (go_at_call 75; (with_reducible refine (impl_valueValid.calls A28.o).mono ?_); rintro e w' ⟨rfl, ⟨nd, rfl⟩⟩; (try exact zdd)))); (repeat (go_quiet (first | (go_at_call 75; (with_reducible refine (impl_valueValid.calls A24.o).mono ?_); rintro e w' ⟨rfl, ⟨nd, rfl⟩⟩; (try exact zdd)) | (go_at_call 75; (with_reducible refine (impl_valueValid.calls A28.o).mono ?_); rintro e w' ⟨rfl, ⟨nd, rfl⟩⟩; (try exact zdd))); try go_wp2_with (first | (go_at_call 75; (with_reducible refine (impl_valueValid.calls A24.o).mono ?_); rintro e w' ⟨rfl, ⟨nd, rfl⟩⟩; (try exact zdd)) | (go_at_call 75; (with_reducible refine (impl_valueValid.calls A28.o).mono ?_); rintro e w' ⟨rfl, ⟨nd, rfl⟩⟩; (try exact zdd))))); go_meet; case rel => exact ⟨_, (!t115), zfe, H', ⟨by have := HK1.o; have := HJ5.o; first | omega | exact Nat.le_refl _⟩, (kB BK111), (bP HB)⟩
          ·replace c25 := Bool.eq_false_iff.mpr c25; subst c25; rw [if_neg zft] at H; have H' := Aside0.mk H; clear H; have z30 := cl4 BK111; (go_wp2_with (first | (go_at_call 75; (with_reducible refine (impl_valueValid.calls A24.o).mono ?_); rintro e w' ⟨rfl, ⟨nd, rfl⟩⟩; (try exact zdd)))); (repeat (go_quiet (first | (go_at_call 75; (with_reducible refine (impl_valueValid.calls A24.o).mono ?_); rintro e w' ⟨rfl, ⟨nd, rfl⟩⟩; (try exact zdd))); try go_wp2_with (first | (go_at_call 75; (with_reducible refine (impl_valueValid.calls A24.o).mono ?_); rintro e w' ⟨rfl, ⟨nd, rfl⟩⟩; (try exact zdd))))); go_meet; case rel => exact ⟨_, (true), zfe, H', ⟨by have := HK1.o; have := HJ5.o; first | omega | exact Nat.le_refl _⟩, (kB BK111), (bP HB)⟩
        case rest =>
         clear HC18; (try clear c2); (try clear c2b0); (try clear c2b1); (try clear c3); (try clear c3b0); (try clear c4); (try clear c4b0); (try clear c5); (try clear c5b0); (try clear c17); (try clear z8); (try clear hx110_0); (try clear hx110_1); (try clear hx110_2); (try clear hx110_3); (try clear p110); (try clear q110); obtain ⟨kq, x55_17, rfl, HA, HJ17, BK111, HB⟩ := hcut
         cases kq with
         | zero => nomatch HA.o
         | succ kj17 =>
          have H := HA.o; clear HA; simp only [impl_FeedValid.j2] at H; by_cases c31 : x55_17 = true
          ·subst c31; rw [if_pos rfl] at H; obtain rfl := Option.some.inj H; go_wp2; (repeat (go_quiet (fail); try go_wp2)); go_ret; exact ⟨fe, bp HB.o⟩
          ·replace c31 := Bool.eq_false_iff.mpr c31; subst c31; rw [if_neg zft] at H; by_cases c32 : x10_1 > 0
           ·rw [if_pos c32] at H; have c32b0 : decide (0 < x10_1) = true := decide_eq_true c32; clear c32; generalize hji33 : wrap64 (x10_1 - 1) = ji33 at H; have hji33w : (IntKind.i64.wrap (x10_1 - 1)) = ji33 := (i64_w _).trans hji33; obtain ⟨c34, H⟩ := zin H; have c34b0 := decide_eq_true c34; clear c34; obtain ⟨c35, H⟩ := zin H; have c35b0 := decide_eq_true c35; clear c35; by_cases c36 : ((rd_T75 l0 (ji33)).f0) ≥ ((rd_T75 l0 x10_1).f0)
            ·rw [if_pos c36] at H; have c36b0 : decide (((rd_T75 l0 x10_1).f0) ≤ ((rd_T75 l0 (ji33)).f0)) = true := decide_eq_true c36; clear c36; obtain rfl := Option.some.inj H; have p116 : 0 ≤ ((ji33) : Int) := zda; have q116 : (ji33) < (l0.length : Int) := zda; obtain ⟨ad116, e116, hx116_0, hx116_1, hx116_2, hx116_3⟩ := at_T75 HR0.o (ji33) p116 q116; (obtain rfl : ad110 = ad116 := (by injection e116)); replace hx116_0 := hcx HB hx116_0; replace hx116_1 := hcx HB hx116_1; replace hx116_2 := hcx HB hx116_2; replace hx116_3 := hcx HB hx116_3; replace p116 := eq_true p116; replace q116 := eq_true q116; have z37 := cl4 BK111; go_wp2; (repeat (go_quiet (fail); try go_wp2)); go_ret; exact ⟨by first | rfl | (simp [errW_none, errW_some] <;> rfl) | (simp only [← hji33]; first | rfl | (simp [errW_none, errW_some] <;> rfl)) | (simp [*, errW_none, errW_some] <;> rfl) | (simp only [IntKind.wrap_u8, show ∀ n_ : Int, wrap64 (n_ % 256) = n_ % 256 from fun n_ => by unfold wrap64; omega]; rfl), bp HB.o⟩
            ·rw [if_neg c36] at H; have c36b0 : decide (((rd_T75 l0 x10_1).f0) ≤ ((rd_T75 l0 (ji33)).f0)) = false := decide_eq_false c36; clear c36; have H' := Aside0.mk H; clear H; have p116 : 0 ≤ ((ji33) : Int) := zda; have q116 : (ji33) < (l0.length : Int) := zda; obtain ⟨ad116, e116, hx116_0, hx116_1, hx116_2, hx116_3⟩ := at_T75 HR0.o (ji33) p116 q116; (obtain rfl : ad110 = ad116 := (by injection e116)); replace hx116_0 := hcx HB hx116_0; replace hx116_1 := hcx HB hx116_1; replace hx116_2 := hcx HB hx116_2; replace hx116_3 := hcx HB hx116_3; replace p116 := eq_true p116; replace q116 := eq_true q116; have z38 := cl4 BK111; go_wp2; (repeat (go_quiet (fail); try go_wp2)); go_roundg kj17; (case measure => have := HK1.o; have := HJ5.o; have := HJ17.o; omega); case rel => exact ⟨(wrap64 (x10_1 + 1)), zfe, H', ⟨by have := HK1.o; have := HJ5.o; have := HJ17.o; omega⟩, (bP HB)⟩
           ·rw [if_neg c32] at H; have c32b0 : decide (0 < x10_1) = false := decide_eq_false c32; clear c32; have H' := Aside0.mk H; clear H; go_wp2; (repeat (go_quiet (fail); try go_wp2)); go_roundg kj17; (case measure => have := HK1.o; have := HJ5.o; have := HJ17.o; omega); case rel => exact ⟨(wrap64 (x10_1 + 1)), zfe, H', ⟨by have := HK1.o; have := HJ5.o; have := HJ17.o; omega⟩, (bP HB)⟩
    ·rw [if_neg c3] at H; have c3b0 := decide_eq_false c3; clear c3; obtain rfl := Option.some.inj H; go_wp2; (repeat (go_quiet (fail); try go_wp2)); go_ret; exact ⟨fe, bp HB.o⟩
/-- A state of type 147 at block g of W; what its slices lead to came in by w0. -/
def IsS147 (w0 W : World) (g : Nat) (f0 : List Int) (f1 : Int) : Prop := ∃ A0 c0, W.heap[g]? = some (.cells #[.slice A0 f0.length c0, .int .i64 f1] 147 (0, 0)) ∧ w0.heap.size ≤ g ∧ Kd.C (Kd.int .u8) w0 A0 f0.length f0
theorem IsS147.grown {w0 W : World} {g : Nat} {f0 : List Int} {f1 : Int} {W1 : World} {row : Option Nat} (h : IsS147 w0 W g f0 f1) (hw : W.grownBy W1 row) (hne : some g ≠ row) : IsS147 w0 W1 g f0 f1 := by
 obtain ⟨A0, c0, hb, hg, hr0⟩ := h; exact ⟨A0, c0, blk_grown hb hw hne, hg, hr0⟩
theorem IsS147.own_neN {w0 W : World} {g : Nat} {f0 : List Int} {f1 : Int} {α : Type} {d : Kd α} {e : Nat} {base : Nat} {ok : Nat → Prop} {v : Value} {xs : List α} (h : IsS147 w0 W g f0 f1) (ho : Kd.N d e W base ok v xs) (ht : e ≠ 147) : some g ≠ v.ownBlock := by
 obtain ⟨A0, c0, hb, hg, hr0⟩ := h; exact Kd.N_ne ho hb ht
theorem IsS147.fresh {w0 W : World} {g : Nat} {f0 : List Int} {f1 : Int} (h : IsS147 w0 W g f0 f1) : ∀ k, W.heap.size ≤ k → k ≠ g := by
 obtain ⟨A0, c0, hb, hg, hr0⟩ := h; exact Kd.freshB hb
theorem IsS147.kept {w0 W : World} {g : Nat} {f0 : List Int} {f1 : Int} {W1 : World} {S : Nat → Prop} (h : IsS147 w0 W g f0 f1) (hk : Kept W W1 S) (hne : ¬ S g) : IsS147 w0 W1 g f0 f1 := by
 obtain ⟨A0, c0, hb, hg, hr0⟩ := h; exact ⟨A0, c0, blk_kept hb hk hne, hg, hr0⟩
theorem IsS147.below {w0 W : World} {g : Nat} {f0 : List Int} {f1 : Int} {W1 : World} (h : IsS147 w0 W g f0 f1) (hw : Below W.heap.size W W1) : IsS147 w0 W1 g f0 f1 := h.grown (grown_of_below hw none) (by simp)
theorem IsS147.alloc {w0 W : World} {g : Nat} {f0 : List Int} {f1 : Int} (h : IsS147 w0 W g f0 f1) (o : Obj) : IsS147 w0 (W.alloc o) g f0 f1 := h.below (below_alloc (Below.refl _ _) o)
theorem IsS147.drewN {w0 W : World} {g : Nat} {f0 : List Int} {f1 : Int} (h : IsS147 w0 W g f0 f1) (m : Nat) : IsS147 w0 (W.drewN m) g f0 f1 := h
theorem IsS147.drew {w0 W : World} {g : Nat} {f0 : List Int} {f1 : Int} (h : IsS147 w0 W g f0 f1) : IsS147 w0 W.drew g f0 f1 := h
theorem IsS147.at_ {w0 W : World} {g : Nat} {f0 : List Int} {f1 : Int} {w' : World} {m : Nat} (hq : W.drewN m = w') (h : IsS147 w0 W g f0 f1) : IsS147 w0 w' g f0 f1 := by subst hq; exact IsS147.drewN h m
theorem IsS147.apart {w0 W : World} {g : Nat} {f0 : List Int} {f1 : Int} {α : Type} {d : Kd α} {e : Nat} {base : Nat} {ok : Nat → Prop} {v : Value} {xs : List α} (h : IsS147 w0 W g f0 f1) (ho : d.R e W base ok v xs) (ht : ∀ q, q ∈ e :: d.E → q ≠ 147) : d.R e W base (fun k => ok k ∧ k ≠ g) v xs := by
 obtain ⟨A0, c0, hb, hg, hr0⟩ := h; exact Kd.R_types ho hb ht
theorem IsS147.zk {w0 W : World} {g : Nat} {f0 : List Int} {f1 : Int} {α : Type} {d : Kd α} {e : Nat} {base : Nat} {ok : Nat → Prop} {v : Value} {xs : List α} {W1 : World} (hk : KeepBut W W1 g none) (h : IsS147 w0 W g f0 f1) (ho : d.R e W base ok v xs) (ht : ∀ q, q ∈ e :: d.E → q ≠ 147 := by decide) : d.R e W1 base ok v xs := Kd.R_mono (Kd.R_keep (IsS147.apart h ho ht) hk (fun _ h => h.2)) (fun _ h => h.1)
theorem IsS147.own_ne {w0 W : World} {g : Nat} {f0 : List Int} {f1 : Int} {α : Type} {d : Kd α} {e : Nat} {base : Nat} {ok : Nat → Prop} {v : Value} {xs : List α} (h : IsS147 w0 W g f0 f1) (ho : d.R e W base ok v xs) (ht : e ≠ 147) : some g ≠ v.ownBlock := by
 obtain ⟨A0, c0, hb, hg, hr0⟩ := h; exact Kd.R_ne ho hb ht
theorem IsS147.apartQ {w0 W : World} {g : Nat} {f0 : List Int} {f1 : Int} {α : Type} {d : Kd α} {e : Nat} {base : Nat} {ok : Nat → Prop} {v : Value} {xs : List α} (h : IsS147 w0 W g f0 f1) (ho : d.Q e W base ok v xs) (ht : ∀ q, q ∈ e :: d.E → q ≠ 147) : d.Q e W base (fun k => ok k ∧ k ≠ g) v xs := by
 obtain ⟨A0, c0, hb, hg, hr0⟩ := h; exact Kd.Q_types ho hb ht
theorem IsS147.own_neQ {w0 W : World} {g : Nat} {f0 : List Int} {f1 : Int} {α : Type} {d : Kd α} {e : Nat} {base : Nat} {ok : Nat → Prop} {v : Value} {xs : List α} (h : IsS147 w0 W g f0 f1) (ho : d.Q e W base ok v xs) (ht : e ≠ 147) : some g ≠ v.ownBlock := by
 obtain ⟨A0, c0, hb, hg, hr0⟩ := h; exact Kd.Q_ne ho hb ht
theorem IsS147.apartS {w0 W : World} {g : Nat} {f0 : List Int} {f1 : Int} {α : Type} {d : Kd α} {e : Nat} {base : Nat} {ok : Nat → Prop} {v : Value} {xs : List α} (h : IsS147 w0 W g f0 f1) (ho : d.S e W base ok v xs) (ht : ∀ q, q ∈ e :: d.E → q ≠ 147) : d.S e W base (fun k => ok k ∧ k ≠ g) v xs := by
 obtain ⟨A0, c0, hb, hg, hr0⟩ := h; exact Kd.S_types ho hb ht
theorem IsS147.own_neS {w0 W : World} {g : Nat} {f0 : List Int} {f1 : Int} {α : Type} {d : Kd α} {e : Nat} {base : Nat} {ok : Nat → Prop} {v : Value} {xs : List α} (h : IsS147 w0 W g f0 f1) (ho : d.S e W base ok v xs) (ht : e ≠ 147) : some g ≠ v.ownBlock := by
 obtain ⟨A0, c0, hb, hg, hr0⟩ := h; exact Kd.S_ne ho hb ht
theorem IsS147.lt {w0 W : World} {g : Nat} {f0 : List Int} {f1 : Int} (h : IsS147 w0 W g f0 f1) : g < W.heap.size := by
 obtain ⟨A0, c0, hb, hg, hr0⟩ := h; exact blk_lt hb
theorem IsS147.ge {w0 W : World} {g : Nat} {f0 : List Int} {f1 : Int} (h : IsS147 w0 W g f0 f1) : w0.heap.size ≤ g := by
 obtain ⟨A0, c0, hb, hg, hr0⟩ := h; exact hg
theorem IsS147.ne_blk {w0 W : World} {g : Nat} {f0 : List Int} {f1 : Int} {a : Nat} {cs : Array Value} {t : TypeId} {fr : Nat × Nat} (h : IsS147 w0 W g f0 f1) (hb2 : W.heap[a]? = some (.cells cs t fr)) (ht : t ≠ 147) : g ≠ a := by
 obtain ⟨A0, c0, hb, hg, hr0⟩ := h; rintro rfl; rw [hb] at hb2; injection hb2 with hb2; injection hb2 with _ ht2; exact ht ht2.symm
theorem IsS147.farA {w0 W : World} {g : Nat} {f0 : List Int} {f1 : Int} {b o : Nat} {q_ : Option Nat} {u : Value} (hne : g ≠ b) (h : IsS147 w0 W g f0 f1) : IsS147 w0 (W.setCell ⟨b, o, q_⟩ u) g f0 f1 := by
 obtain ⟨A0, c0, hb, hg, hr0⟩ := h; exact ⟨A0, c0, blk_far hb hne u, hg, hr0⟩
theorem IsS147.far {w0 W : World} {g : Nat} {f0 : List Int} {f1 : Int} {p : Addr} (h : IsS147 w0 W g f0 f1) (hne : g ≠ p.block) (u : Value) : IsS147 w0 (W.setCell p u) g f0 f1 := by
 obtain ⟨A0, c0, hb, hg, hr0⟩ := h; exact ⟨A0, c0, blk_far hb hne u, hg, hr0⟩
theorem cellS147_0 {W : World} {g : Nat} {A0 : Option Addr} {c0 : Nat} {f0 : List Int} {f1 : Int} (h : W.heap[g]? = some (.cells #[.slice A0 f0.length c0, .int .i64 f1] 147 (0, 0))) : W.cell? ⟨g, 0, none⟩ = some (.slice A0 f0.length c0) := (blk_cell h 0).trans rfl
theorem cellS147_1 {W : World} {g : Nat} {A0 : Option Addr} {c0 : Nat} {f0 : List Int} {f1 : Int} (h : W.heap[g]? = some (.cells #[.slice A0 f0.length c0, .int .i64 f1] 147 (0, 0))) : W.cell? ⟨g, 1, none⟩ = some (.int .i64 f1) := (blk_cell h 1).trans rfl
theorem IsS147.set_1 {w0 W : World} {g : Nat} {f0 : List Int} {f1 : Int} (h : IsS147 w0 W g f0 f1) (x : Int) : IsS147 w0 (W.setCell ⟨g, 1, none⟩ (.int .i64 x)) g f0 x := by
 obtain ⟨A0, c0, hb, hg, hr0⟩ := h; exact ⟨A0, c0, by simpa using blk_set hb 1 (.int .i64 x), hg, hr0⟩
theorem IsS147.new (w0 W : World) (A0 : Option Addr) (c0 : Nat) (f0 : List Int) (f1 : Int) (hB : Below w0.heap.size w0 W) (hr0 : Kd.C (Kd.int .u8) w0 A0 f0.length f0) : IsS147 w0 (W.alloc (.cells #[.slice A0 f0.length c0, .int .i64 f1] 147)) W.heap.size f0 f1 := ⟨A0, c0, by simpa using heap_alloc_new W _, hB.size, hr0⟩
theorem zs0 {P0 Q : Prop} (B0 : P0) (h : P0 → Q := by (intro b0_; repeat (first | (with_reducible first | exact b0_ | apply IsS147.alloc | apply IsS147.drewN | apply IsS147.drew | apply IsS147.set_1) | exact b0_))) : Q := h B0
theorem zs1 {P0 Q : Prop} (B0 : P0) (h : P0 → Q := by (intro b0_; repeat (first | (with_reducible first | exact b0_ | apply KeepBut.set_ | apply keep_drewN | apply keep_drew | apply keep_alloc) | exact b0_))) : Q := h B0
theorem zs2 {P0 P1 Q : Prop} (B0 : P0) (B1 : P1) (h : P0 → P1 → Q := by (intro b0_ b1_; repeat (first | (with_reducible first | exact b0_ | apply below_alloc | apply pw_below_drewN | apply below_drew1 | refine below_set ?_ (IsS147.ge b1_)) | exact b0_))) : Q := h B0 B1
theorem zs3 {P0 P1 Q : Prop} (B0 : P0) (B1 : P1) (h : P0 → P1 → Q := by (intro b0_ b1_; repeat (first | (with_reducible first | exact b0_ | apply IsS147.alloc | apply IsS147.drewN | apply IsS147.drew | apply IsS147.set_1 | apply IsS147.farA b1_ | refine IsS147.far ?_ b1_ _) | exact b0_))) : Q := h B0 B1
theorem zs4 {P0 P1 P2 Q : Prop} (B0 : P0) (B1 : P1) (B2 : P2) (h : P0 → P1 → P2 → Q := by (intro b0_ b1_ b2_; repeat (first | (with_reducible first | exact b0_ | apply below_alloc | apply pw_below_drewN | apply below_drew1 | refine below_set ?_ (IsS147.ge b1_) | refine below_set ?_ b2_) | exact b0_))) : Q := h B0 B1 B2
theorem zs5 {P0 P1 Q : Prop} (B0 : P0) (B1 : P1) (h : P0 → P1 → Q := by (intro b0_ b1_; repeat (first | (with_reducible first | exact b0_ | apply KeepBut.set_ | apply keep_drewN | apply keep_drew | apply keep_alloc | refine keep_far ?_ b1_ _) | exact b0_))) : Q := h B0 B1
theorem zs6 {P0 Q : Prop} (B0 : P0) (h : P0 → Q := by (intro b0_; repeat (first | exact (Kd.R_reads' b0_).2.2 | (with_reducible refine Kd.C_alloc ?_ _) | (with_reducible refine Kd.C_drewN ?_ _) | (with_reducible refine Kd.C_drew ?_)))) : Q := h B0
theorem zs7 {P0 P1 P2 Q : Prop} (B0 : P0) (B1 : P1) (B2 : P2) (h : P0 → P1 → P2 → Q := by (intro b0_ b1_ b2_; repeat (first | (with_reducible first | exact b0_ | apply IsS147.alloc | apply IsS147.drewN | apply IsS147.drew | apply IsS147.set_1 | apply IsS147.farA b1_ | refine IsS147.far ?_ b1_ _ | apply IsS147.farA b2_ | refine IsS147.far ?_ b2_ _) | exact b0_))) : Q := h B0 B1 B2
theorem zs8 {P0 P1 P2 P3 Q : Prop} (B0 : P0) (B1 : P1) (B2 : P2) (B3 : P3) (h : P0 → P1 → P2 → P3 → Q := by (intro b0_ b1_ b2_ b3_; repeat (first | (with_reducible first | exact b0_ | apply below_alloc | apply pw_below_drewN | apply below_drew1 | refine below_set ?_ (IsS147.ge b1_) | refine below_set ?_ b2_ | refine below_set ?_ b3_) | exact b0_))) : Q := h B0 B1 B2 B3
theorem zs9 {P0 P1 P2 Q : Prop} (B0 : P0) (B1 : P1) (B2 : P2) (h : P0 → P1 → P2 → Q := by (intro b0_ b1_ b2_; repeat (first | (with_reducible first | exact b0_ | apply KeepBut.set_ | apply keep_drewN | apply keep_drew | apply keep_alloc | refine keep_far ?_ b1_ _ | refine keep_far ?_ b2_ _) | exact b0_))) : Q := h B0 B1 B2
theorem zs10 {P0 Q : Prop} (B0 : P0) (h : P0 → Q := by (intro b0_; repeat (first | (with_reducible exact b0_) | (with_reducible refine Kd.C_alloc ?_ _) | (with_reducible refine Kd.C_drewN ?_ _) | (with_reducible refine Kd.C_drew ?_) | exact b0_))) : Q := h B0

/-! ### spec_l20Open: function 71 -/
def spec_l20Open.f (l0 : List Int) : Option (List Int × Int) := if (l0.length : Int) > 2000 then (if 2000 ≤ (l0.length : Int) then (some ((l0.take 2000), 0)) else (none)) else (some (l0, 0))
theorem spec_l20Open.calls {A0 : Option Addr} {c0 : Nat} {l0 : List Int} {r1 : List Int} {r2 : Int} (w0 : World) {w : World} (hB : Below w0.heap.size w0 w) (hr0 : Kd.C (Kd.int .u8) w0 A0 l0.length l0) (hc0 : l0.length ≤ c0) (h : spec_l20Open.f l0 = some (r1, r2)) :
    Calls Try.prog 71 #[.slice A0 l0.length c0] w fun e w' => ∃ g_ : Nat, e = .returned (.pointer (some ⟨g_, 0, none⟩)) ∧ IsS147 w0 w' g_ r1 r2 ∧ Below w0.heap.size w0 w' ∧ Below w.heap.size w w' ∧ w.heap.size ≤ g_ := by
 have hu147 := Try.underlying147; have HR0 := Zm hr0; have HC0 := Zm hc0; clear hr0 hc0; have HBW := Zm (Below.refl w.heap.size w); have HW0 := Zm hB.size; have HB := Zm hB; clear hB; unfold spec_l20Open.f at h; have H := h; clear h; by_cases c2 : (l0.length : Int) > 2000
 ·rw [if_pos c2] at H; have c2b0 : decide (2000 < (l0.length : Int)) = true := decide_eq_true c2; (have c2b1 : decide (2000 < l0.length) = true := decide_eq_true (by omega)); clear c2; obtain ⟨c3, H⟩ := zin H; have c3b0 := eq_true c3; have c3b1 := decide_eq_true c3; clear c3; obtain ⟨y117, hy117⟩ : ∃ y_ : List Int, y_ = (l0.take 2000) := ⟨_, rfl⟩; (replace H : (some (y117, 0)) = some (r1, r2) := zsy H hy117); have Ny117 := Zm hy117; clear hy117; simp only [zpi] at H; obtain ⟨rfl, rfl⟩ := H; have q4 : (2000 : Int) ≤ ((l0.length : Int) : Int) := zda; obtain ⟨i04, hi04, _, hsz4, _⟩ := info_parts info5; have hroom4 : l0.length ≤ c0 := HC0.o; have hC4 : Kd.C (Kd.int .u8) _ A0 l0.length l0 := HR0.o; (have hcut4 := cut_to (P := Try.prog) 22 5 .i64 Try.underlying22 hi04 A0 l0.length c0 2000 (by omega) q4 hroom4); (have hr4 := Kd.C_take (m := 2000) hC4 (by omega)); (have hy4 : y117.length = (2000 : Int).toNat := (by rw [Ny117.o, List.length_take]; omega)); rw [← Ny117.o] at hr4; rw [← hy4] at hcut4; have HR120 := Zm hr4; (have HC120 := Zm (show y117.length ≤ c0 from by omega)); clear hr4 hC4 hroom4 hi04 hsz4; have KY4 := Zm hy4; clear hy4; replace q4 := eq_true q4; go_enter Try.func71, Try.ntmps71; (go_wp2_with (first | ((with_reducible refine gD 10 rfl ?_); refine bxe (N := 10) (cs := #[.slice A0 y117.length c0, .int .i64 0]) (t := 147) ?_; intro gb121 hg w5 hbox hb; have n_ := zm5 ⟨below_step HBW.o hb⟩ (an0 HB hb) ⟨hbox⟩ (an2 HBW hg) ⟨(Nat.le_trans HW0.o (by rw [hg]; exact (below_size (bp HBW.o)) : w.heap.size ≤ gb121) : w0.heap.size ≤ gb121)⟩; clear HBW HB; obtain ⟨HBW, HB, BK121, GW121, GE121⟩ := n_; clear hb hbox hg))); go_ret; exact ⟨_, rfl, (show IsS147 w0 _ gb121 y117 0 from ⟨_, _, kb BK121.o, GE121.o, HR120.o⟩), bp HB.o, bp HBW.o, GW121.o⟩
 ·rw [if_neg c2] at H; have c2b0 : decide (2000 < (l0.length : Int)) = false := decide_eq_false c2; (have c2b1 : decide (2000 < l0.length) = false := decide_eq_false (by omega)); clear c2; simp only [zpi] at H; obtain ⟨rfl, rfl⟩ := H; go_enter Try.func71, Try.ntmps71; (go_wp2_with (first | ((with_reducible refine gD 10 rfl ?_); refine bxe (N := 10) (cs := #[.slice A0 l0.length c0, .int .i64 0]) (t := 147) ?_; intro gb122 hg w6 hbox hb; have n_ := zm5 ⟨below_step HBW.o hb⟩ (an0 HB hb) ⟨hbox⟩ (an2 HBW hg) ⟨(Nat.le_trans HW0.o (by rw [hg]; exact (below_size (bp HBW.o)) : w.heap.size ≤ gb122) : w0.heap.size ≤ gb122)⟩; clear HBW HB; obtain ⟨HBW, HB, BK122, GW122, GE122⟩ := n_; clear hb hbox hg))); go_ret; exact ⟨_, rfl, (show IsS147 w0 _ gb122 l0 0 from ⟨_, _, kb BK122.o, GE122.o, HR0.o⟩), bp HB.o, bp HBW.o, GW122.o⟩
end Go.Proofs.Ytfeeifefmenlmaa.PFnFeedFrom
