-- Written by a program of this session, in the manner of the kit's print (wip/pp.py): functions and their contracts.
import Derived.Test.YtagknifdfpjlbaaDoorPFnReadPairsx0
namespace Go.Proofs.YtagknifdfpjlbaaDoor.PFnReadPairs
open Go.RowKit Go.Proofs.YtagknifdfpjlbaaDoorW.PrintWords Go.Proofs.YtagknifdfpjlbaaDoorW.PrintLast Go.Proofs.YtagknifdfpjlbaaDoorW.PrintMore
attribute [local go_sem] binOp_leq_str binOp_gtr_str binOp_geq_str max2_int min2_int max_two min_two max_three min_three max_four min_four Instr.field asAgg   -- for this text's walks alone
set_option linter.unusedVariables false
set_option linter.unusedSimpArgs false

/-! ### impl_lettersOnly: function 62 -/
def impl_lettersOnly.f : Nat → ByteArray → Option (Bool)
  | 0, _ => none
  | k + 1, a0 => if a0.toList = ([] : List UInt8) then (some true) else (if 0 < (a0.size : Int) then (if (bt a0 0) ≥ 97 then (if (bt a0 0) ≤ 122 then (if 1 ≤ (a0.size : Int) then ((impl_lettersOnly.f k (a0.extract 1 a0.size)).bind fun t101 => (some t101)) else (none)) else (some false)) else (some false)) else (none))
theorem impl_lettersOnly.mono_l : ∀ k, (∀ y0, LeO (impl_lettersOnly.f k y0) (impl_lettersOnly.f (k + 1) y0))
  | 0 => fun _ r h => by simp [impl_lettersOnly.f] at h
  | k + 1 => by
    have ih0 := impl_lettersOnly.mono_l k
    · intro y0
      unfold impl_lettersOnly.f
      repeat' with_reducible first | exact ih0 _ | exact LeO.refl _ | exact LeO.none _ | refine LeO.ite ?_ ?_ | refine LeO.bind ?_ (fun _ => ?_)
theorem impl_lettersOnly.mono : ∀ a0 k, LeO (impl_lettersOnly.f k a0) (impl_lettersOnly.f (k + 1) a0) := by
 intro a0 k; have ih0 := impl_lettersOnly.mono_l k; exact ih0 a0
set_option maxHeartbeats 8000000 in
set_option maxRecDepth 100000 in
theorem impl_lettersOnly.calls (k : Nat) : ∀ (a0 : ByteArray) (r : Bool) (w : World) (h : impl_lettersOnly.f k a0 = some r),
    Calls Tryd.prog 62 #[.string a0] w fun e w' => e = .returned (.bool r) ∧ Drawn0 w w' := by
 induction k using Nat.strongRecOn with
 | _ k ih =>
 intro a0 r w h
 cases k with
 | zero => exact absurd h (by simp [impl_lettersOnly.f])
 | succ k =>
 simp only [impl_lettersOnly.f] at h; have H : (if a0.toList = ([] : List UInt8) then (some true) else (if 0 < (a0.size : Int) then (if (bt a0 0) ≥ 97 then (if (bt a0 0) ≤ 122 then (if 1 ≤ (a0.size : Int) then ((impl_lettersOnly.f k (a0.extract 1 a0.size)).bind fun t101 => (some t101)) else (none)) else (some false)) else (some false)) else (none))) = some r := h; clear h; by_cases c2 : a0.toList = ([] : List UInt8)
 ·rw [if_pos c2] at H; have c2b0 : (a0.toList == ([] : List UInt8)) = true := beq_iff_eq.mpr c2; have c2b1 : (a0.toList != ([] : List UInt8)) = false := bne_eq_false_iff_eq.mpr c2; clear c2; obtain rfl := Option.some.inj H; go_enter Tryd.func62, Tryd.ntmps62; go_wp2; go_ret; exact ⟨zfe, zdr⟩
 ·rw [if_neg c2] at H; have c2b0 : (a0.toList == ([] : List UInt8)) = false := beq_eq_false_iff_ne.mpr c2; have c2b1 : (a0.toList != ([] : List UInt8)) = true := bne_iff_ne.mpr c2; by_cases c3 : 0 < (a0.size : Int)
  ·rw [if_pos c3] at H; have c3b0 : decide (0 < (a0.size : Int)) = true := decide_eq_true c3; (have c3b1 : decide (0 < a0.size) = true := decide_eq_true (by omega)); clear c3; by_cases c5 : (bt a0 0) ≥ 97
   ·rw [if_pos c5] at H; have c5b0 : decide (97 ≤ (bt a0 0)) = true := decide_eq_true c5; clear c5; by_cases c7 : (bt a0 0) ≤ 122
    ·rw [if_pos c7] at H; have c7b0 : decide ((bt a0 0) ≤ 122) = true := decide_eq_true c7; clear c7; by_cases c8 : 1 ≤ (a0.size : Int)
     ·rw [if_pos c8] at H; have c8b0 := eq_true c8; have c8b1 : decide (1 ≤ (a0.size : Int)) = true := decide_eq_true c8; clear c8; obtain ⟨t101, A9, H⟩ := zbd H; (try dsimp only at H); obtain rfl := Option.some.inj H; (have p4 : 0 ≤ (0 : Int) := (by omega)); (have q4 : 0 < a0.size := (by have : (0 : Int) < (a0.size : Int) := zda; omega)); have hx4 : ∀ h : 0 < a0.size, ((a0[0]'h).toNat : Int) = bt a0 0 := bt_at a0 0; clear p4; have qi4 : (0 < (a0.size : Int)) = True := eq_true (zda); replace q4 := eq_true q4; (have p6 : 0 ≤ (0 : Int) := (by omega)); (have q6 : 0 < a0.size := (by have : (0 : Int) < (a0.size : Int) := zda; omega)); have hx6 : ∀ h : 0 < a0.size, ((a0[0]'h).toNat : Int) = bt a0 0 := bt_at a0 0; clear p6; have qi6 : (0 < (a0.size : Int)) = True := eq_true (zda); replace q6 := eq_true q6; go_enter Tryd.func62, Tryd.ntmps62; (go_wp2_with (first | (go_at_call 62; (with_reducible refine (ih k (by omega) (a0.extract 1 a0.size) t101 _ A9.out).mono ?_); rintro e w' ⟨rfl, ⟨nd, rfl⟩⟩))); go_ret; exact ⟨zfe, zdr⟩
     ·rw [if_neg c8] at H; exact absurd H (by simp)
    ·rw [if_neg c7] at H; have c7b0 : decide ((bt a0 0) ≤ 122) = false := decide_eq_false c7; clear c7; obtain rfl := Option.some.inj H; (have p4 : 0 ≤ (0 : Int) := (by omega)); (have q4 : 0 < a0.size := (by have : (0 : Int) < (a0.size : Int) := zda; omega)); have hx4 : ∀ h : 0 < a0.size, ((a0[0]'h).toNat : Int) = bt a0 0 := bt_at a0 0; clear p4; have qi4 : (0 < (a0.size : Int)) = True := eq_true (zda); replace q4 := eq_true q4; (have p6 : 0 ≤ (0 : Int) := (by omega)); (have q6 : 0 < a0.size := (by have : (0 : Int) < (a0.size : Int) := zda; omega)); have hx6 : ∀ h : 0 < a0.size, ((a0[0]'h).toNat : Int) = bt a0 0 := bt_at a0 0; clear p6; have qi6 : (0 < (a0.size : Int)) = True := eq_true (zda); replace q6 := eq_true q6; go_enter Tryd.func62, Tryd.ntmps62; go_wp2; go_ret; exact ⟨zfe, zdr⟩
   ·rw [if_neg c5] at H; have c5b0 : decide (97 ≤ (bt a0 0)) = false := decide_eq_false c5; clear c5; obtain rfl := Option.some.inj H; (have p4 : 0 ≤ (0 : Int) := (by omega)); (have q4 : 0 < a0.size := (by have : (0 : Int) < (a0.size : Int) := zda; omega)); have hx4 : ∀ h : 0 < a0.size, ((a0[0]'h).toNat : Int) = bt a0 0 := bt_at a0 0; clear p4; have qi4 : (0 < (a0.size : Int)) = True := eq_true (zda); replace q4 := eq_true q4; go_enter Tryd.func62, Tryd.ntmps62; go_wp2; go_ret; exact ⟨zfe, zdr⟩
  ·rw [if_neg c3] at H; exact absurd H (by simp)
/-! ### impl_KeyValid: function 34 -/
def impl_KeyValid.f (k : Nat) (a0 : ByteArray) : Option (Bool) := if (a0.size : Int) < 1 then (some false) else (if (a0.size : Int) > 4 then (some false) else ((impl_lettersOnly.f k a0).bind fun t102 => (some t102)))
theorem impl_KeyValid.mono : ∀ a0 k, LeO (impl_KeyValid.f k a0) (impl_KeyValid.f (k + 1) a0) := by
 intro a0 k; unfold impl_KeyValid.f; repeat' with_reducible first | exact impl_lettersOnly.mono .. | exact LeO.refl _ | exact LeO.none _ | refine LeO.ite ?_ ?_ | refine LeO.bind ?_ (fun _ => ?_)
set_option maxHeartbeats 8000000 in
set_option maxRecDepth 100000 in
theorem impl_KeyValid.calls (k : Nat) (a0 : ByteArray) (r : Bool) (w : World) (h : impl_KeyValid.f k a0 = some r) :
    Calls Tryd.prog 34 #[.string a0] w fun e w' => e = .returned (.bool r) ∧ Drawn0 w w' := by
 unfold impl_KeyValid.f at h; have H := h; clear h; by_cases c2 : (a0.size : Int) < 1
 ·rw [if_pos c2] at H; have c2b0 : decide ((a0.size : Int) < 1) = true := decide_eq_true c2; (have c2b1 : decide (a0.size < 1) = true := decide_eq_true (by omega)); clear c2; obtain rfl := Option.some.inj H; go_enter Tryd.func34, Tryd.ntmps34; go_wp2; go_ret; exact ⟨zfe, zdr⟩
 ·rw [if_neg c2] at H; have c2b0 : decide ((a0.size : Int) < 1) = false := decide_eq_false c2; (have c2b1 : decide (a0.size < 1) = false := decide_eq_false (by omega)); clear c2; by_cases c3 : (a0.size : Int) > 4
  ·rw [if_pos c3] at H; have c3b0 : decide (4 < (a0.size : Int)) = true := decide_eq_true c3; (have c3b1 : decide (4 < a0.size) = true := decide_eq_true (by omega)); clear c3; obtain rfl := Option.some.inj H; go_enter Tryd.func34, Tryd.ntmps34; go_wp2; go_ret; exact ⟨zfe, zdr⟩
  ·rw [if_neg c3] at H; have c3b0 : decide (4 < (a0.size : Int)) = false := decide_eq_false c3; (have c3b1 : decide (4 < a0.size) = false := decide_eq_false (by omega)); clear c3; obtain ⟨t102, A4, H⟩ := zbd H; (try dsimp only at H); obtain rfl := Option.some.inj H; go_enter Tryd.func34, Tryd.ntmps34; (go_wp2_with (first | ((with_reducible refine gate_callee (f := 62) rfl ?_); refine goesL_ (some 12) rfl rfl Tryd.func62 (by kernel_rfl) rfl #[.string a0] rfl (by (try simp only [List.map_toArray, List.map_cons, List.map_nil]); first | done | rfl | (simp only [List.length_drop, List.length_take]; rfl)) ?_; (with_reducible refine (impl_lettersOnly.calls k a0 t102 _ A4.out).mono ?_); rintro e w' ⟨rfl, ⟨nd, rfl⟩⟩; refine ⟨_, rfl, ?_⟩))); go_ret; exact ⟨zfe, zdr⟩
/-! ### impl_valueValid: function 35 -/
def impl_valueValid.f (a0 : Int) : Option (Bool) := if a0 ≥ 0 then (some (decide (a0 ≤ 999))) else (some false)
set_option maxHeartbeats 8000000 in
set_option maxRecDepth 100000 in
theorem impl_valueValid.calls (a0 : Int) (r : Bool) (w : World) (h : impl_valueValid.f a0 = some r) :
    Calls Tryd.prog 35 #[.int .i64 a0] w fun e w' => e = .returned (.bool r) ∧ Drawn0 w w' := by
 unfold impl_valueValid.f at h; have H := h; clear h; by_cases c2 : a0 ≥ 0
 ·rw [if_pos c2] at H; have c2b0 : decide (0 ≤ a0) = true := decide_eq_true c2; clear c2; obtain rfl := Option.some.inj H; go_enter Tryd.func35, Tryd.ntmps35; go_wp2; go_ret; exact ⟨zfe, zdr⟩
 ·rw [if_neg c2] at H; have c2b0 : decide (0 ≤ a0) = false := decide_eq_false c2; clear c2; obtain rfl := Option.some.inj H; go_enter Tryd.func35, Tryd.ntmps35; go_wp2; go_ret; exact ⟨zfe, zdr⟩
/-! ### impl_PairsValid: function 11 -/
mutual
def impl_PairsValid.l0 : Nat → List (S47) → List (S47) → Int → Int → Option (Bool)
  | 0, _, _, _, _ => none
  | k + 1, a, b, c, d => if d < c then (if 0 ≤ d then (if d < (b.length : Int) then ((impl_KeyValid.f k ((rd_T47 b d).f0)).bind fun t105 => (if t105 = true then ((impl_valueValid.f ((rd_T47 b d).f1)).bind fun t106 => (impl_PairsValid.j1 k a d b c d (!t106) ((rd_T47 b d).f0) ((rd_T47 b d).f1))) else (impl_PairsValid.j1 k a d b c d true ((rd_T47 b d).f0) ((rd_T47 b d).f1)))) else (none)) else (none)) else (some true)
def impl_PairsValid.j1 : Nat → List (S47) → Int → List (S47) → Int → Int → Bool → ByteArray → Int → Option (Bool)
  | 0, _, _, _, _, _, _, _, _ => none
  | k + 1, a, b, c, d, e, f, g, i => if f = true then (some false) else (if b > 0 then (if 0 ≤ (wrap64 (b - 1)) then (if (wrap64 (b - 1)) < (a.length : Int) then (if ((Op.bytesLess (((rd_T47 a (wrap64 (b - 1))).f0).toList) g.toList) = true) then (impl_PairsValid.l0 k a c d (wrap64 (e + 1))) else (some false)) else (none)) else (none)) else (impl_PairsValid.l0 k a c d (wrap64 (e + 1))))
end
def impl_PairsValid.f (k : Nat) (l0 : List (S47)) : Option (Bool) := if (l0.length : Int) > 48 then (some false) else (impl_PairsValid.l0 k l0 l0 (l0.length : Int) 0)
theorem impl_PairsValid.mono_l : ∀ k, (∀ y0 y1 y2 y3, LeO (impl_PairsValid.l0 k y0 y1 y2 y3) (impl_PairsValid.l0 (k + 1) y0 y1 y2 y3)) ∧ (∀ y0 y1 y2 y3 y4 y5 y6 y7, LeO (impl_PairsValid.j1 k y0 y1 y2 y3 y4 y5 y6 y7) (impl_PairsValid.j1 (k + 1) y0 y1 y2 y3 y4 y5 y6 y7))
  | 0 => ⟨fun _ _ _ _ r h => by simp [impl_PairsValid.l0] at h, fun _ _ _ _ _ _ _ _ r h => by simp [impl_PairsValid.j1] at h⟩
  | k + 1 => by
    obtain ⟨ih0, ih1⟩ := impl_PairsValid.mono_l k
    refine ⟨?_, ?_⟩
    · intro y0 y1 y2 y3
      unfold impl_PairsValid.l0
      repeat' with_reducible first | exact ih0 _ _ _ _ | exact ih1 .. | exact impl_KeyValid.mono .. | exact LeO.refl _ | exact LeO.none _ | refine LeO.ite ?_ ?_ | refine LeO.bind ?_ (fun _ => ?_)
    · intro y0 y1 y2 y3 y4 y5 y6 y7
      unfold impl_PairsValid.j1
      repeat' with_reducible first | exact ih0 _ _ _ _ | exact ih1 .. | exact impl_KeyValid.mono .. | exact LeO.refl _ | exact LeO.none _ | refine LeO.ite ?_ ?_ | refine LeO.bind ?_ (fun _ => ?_)
theorem impl_PairsValid.mono : ∀ a0 k, LeO (impl_PairsValid.f k a0) (impl_PairsValid.f (k + 1) a0) := by
 intro a0 k; obtain ⟨ih0, ih1⟩ := impl_PairsValid.mono_l k; unfold impl_PairsValid.f; repeat' with_reducible first | exact ih0 _ _ _ _ | exact ih1 .. | exact impl_KeyValid.mono .. | exact LeO.refl _ | exact LeO.none _ | refine LeO.ite ?_ ?_ | refine LeO.bind ?_ (fun _ => ?_)
set_option maxHeartbeats 8000000 in
set_option maxRecDepth 100000 in
theorem impl_PairsValid.calls (k : Nat) (A0 : Option Addr) (c0 : Nat) (l0 : List (S47)) (r : Bool) (w : World) (hr0 : Kd.C k47 w A0 l0.length l0) (hc0 : l0.length ≤ c0) (h : impl_PairsValid.f k l0 = some r) :
    Calls Tryd.prog 11 #[.slice A0 l0.length c0] w fun e w' => e = .returned (.bool r) ∧ Below w.heap.size w w' := by
 have hu47 := Tryd.underlying47; have HR0 := Aside0.mk hr0; have HC0 := Aside0.mk hc0; clear hr0 hc0; have HB := Aside0.mk (Below.refl w.heap.size w); unfold impl_PairsValid.f at h; have H := h; clear h; by_cases c2 : (l0.length : Int) > 48
 ·rw [if_pos c2] at H; have c2b0 : decide (48 < (l0.length : Int)) = true := decide_eq_true c2; (have c2b1 : decide (48 < l0.length) = true := decide_eq_true (by omega)); clear c2; obtain rfl := Option.some.inj H; go_enter Tryd.func11, Tryd.ntmps11; go_wp2; (repeat (go_quiet (fail); try go_wp2)); go_ret; exact ⟨fe, bp HB.out⟩
 ·rw [if_neg c2] at H; have c2b0 : decide (48 < (l0.length : Int)) = false := decide_eq_false c2; (have c2b1 : decide (48 < l0.length) = false := decide_eq_false (by omega)); clear c2; have H' := Aside0.mk H; clear H; go_enter Tryd.func11, Tryd.ntmps11; go_wp2; (repeat (go_quiet (fail); try go_wp2)); go_loopg [10] k (fun kq v10 w' => ∃ (x10_1 : Int), v10 = .int .i64 x10_1 ∧ Aside0 (impl_PairsValid.l0 kq l0 l0 (l0.length : Int) x10_1 = some r) ∧ Aside0 (kq ≤ k) ∧ Aside0 (Below w.heap.size w w')); case atStart => exact ⟨(0), zfe, H', ⟨Nat.le_refl _⟩, ⟨bp HB.out⟩⟩
  case round =>
   clear H'; (try clear c1); (try clear c2); (try clear c2b0); (try clear c2b1); (try clear p2); obtain ⟨x10_1, rfl, HA, HK1, HB⟩ := hrel
   cases gk with
   | zero => exact absurd HA.out (by simp [impl_PairsValid.l0])
   | succ k1 =>
    have H := HA.out; clear HA; simp only [impl_PairsValid.l0] at H; by_cases c3 : x10_1 < (l0.length : Int)
    ·rw [if_pos c3] at H; have c3b0 : decide (x10_1 < (l0.length : Int)) = true := decide_eq_true c3; clear c3; by_cases c4 : 0 ≤ x10_1
     ·rw [if_pos c4] at H; have c4b0 : decide (0 ≤ x10_1) = true := decide_eq_true c4; clear c4; by_cases c5 : x10_1 < (l0.length : Int)
      ·rw [if_pos c5] at H; have c5b0 : decide (x10_1 < (l0.length : Int)) = true := decide_eq_true c5; clear c5; have HC6 := Aside0.mk H; clear H; have p103 : 0 ≤ (x10_1 : Int) := zda; have q103 : x10_1 < (l0.length : Int) := zda; obtain ⟨ad103, e103, hx103_0, hx103_1⟩ := at_T47 HR0.out x10_1 p103 q103; cases e103; replace hx103_0 := hcx HB hx103_0; replace hx103_1 := hcx HB hx103_1; replace p103 := eq_true p103; replace q103 := eq_true q103; (go_upto_region 6 with (first | ((with_reducible refine gate_dst (N := 4) rfl ?_); refine bxe (N := 4) (cs := #[.string (⟨#[]⟩ : ByteArray), .int .i64 0]) (t := 47) ?_; intro gb104 hg w7 hbox hb; have BK104 := Aside0.mk (hbox); have GW104 := an2 HB hg; have GE104 := an2 HB hg; replace HB := an0 HB hb; clear hb hbox hg; obtain ⟨z8a, z8b, f8a, f8b⟩ := cl2 BK104))); (repeat (go_quiet (first | ((with_reducible refine gate_dst (N := 4) rfl ?_); refine bxe (N := 4) (cs := #[.string (⟨#[]⟩ : ByteArray), .int .i64 0]) (t := 47) ?_; intro gb104 hg w7 hbox hb; have BK104 := Aside0.mk (hbox); have GW104 := an2 HB hg; have GE104 := an2 HB hg; replace HB := an0 HB hb; clear hb hbox hg; obtain ⟨z8a, z8b, f8a, f8b⟩ := cl2 BK104)); go_upto_region 6 with (first | ((with_reducible refine gate_dst (N := 4) rfl ?_); refine bxe (N := 4) (cs := #[.string (⟨#[]⟩ : ByteArray), .int .i64 0]) (t := 47) ?_; intro gb104 hg w7 hbox hb; have BK104 := Aside0.mk (hbox); have GW104 := an2 HB hg; have GE104 := an2 HB hg; replace HB := an0 HB hb; clear hb hbox hg; obtain ⟨z8a, z8b, f8a, f8b⟩ := cl2 BK104)))); (try simp only [Act.put, List.setIfInBounds_toArray, List.set_cons_zero, List.set_cons_succ]); go_cut [24] (fun v24 wc => ∃ (kq : Nat) (x24_5 : Bool), v24 = .bool x24_5 ∧ Aside0 (impl_PairsValid.j1 kq l0 x10_1 l0 (l0.length : Int) x10_1 x24_5 ((rd_T47 l0 x10_1).f0) ((rd_T47 l0 x10_1).f1) = some r) ∧ Aside0 (kq ≤ k1) ∧ Aside0 (wc.heap[gb104]? = some (.cells #[.string ((rd_T47 l0 x10_1).f0), .int .i64 ((rd_T47 l0 x10_1).f1)] 47 (0, 0))) ∧ Aside0 (Below w.heap.size w wc))
       case first =>
        have H := HC6.out; clear HC6; obtain ⟨t105, A9, H⟩ := zbd H; (try dsimp only at H); by_cases c10 : t105 = true
        ·subst c10; rw [if_pos rfl] at H; obtain ⟨t106, A11, H⟩ := zbd H; (try dsimp only at H); have H' := Aside0.mk H; clear H; obtain ⟨z12a, z12b, f12a, f12b⟩ := cl2 BK104; (go_wp2_with (first | (go_at_call 34; (with_reducible refine (impl_KeyValid.calls k1 ((rd_T47 l0 x10_1).f0) true _ A9.out).mono ?_); rintro e w' ⟨rfl, ⟨nd, rfl⟩⟩; (try exact zdd)) | (go_at_call 35; (with_reducible refine (impl_valueValid.calls ((rd_T47 l0 x10_1).f1) t106 _ A11.out).mono ?_); rintro e w' ⟨rfl, ⟨nd, rfl⟩⟩; (try exact zdd)))); (repeat (go_quiet (first | (go_at_call 34; (with_reducible refine (impl_KeyValid.calls k1 ((rd_T47 l0 x10_1).f0) true _ A9.out).mono ?_); rintro e w' ⟨rfl, ⟨nd, rfl⟩⟩; (try exact zdd)) | (go_at_call 35; (with_reducible refine (impl_valueValid.calls ((rd_T47 l0 x10_1).f1) t106 _ A11.out).mono ?_); rintro e w' ⟨rfl, ⟨nd, rfl⟩⟩; (try exact zdd))); try go_wp2_with (first | (go_at_call 34; (with_reducible refine (impl_KeyValid.calls k1 ((rd_T47 l0 x10_1).f0) true _ A9.out).mono ?_); rintro e w' ⟨rfl, ⟨nd, rfl⟩⟩; (try exact zdd)) | (go_at_call 35; (with_reducible refine (impl_valueValid.calls ((rd_T47 l0 x10_1).f1) t106 _ A11.out).mono ?_); rintro e w' ⟨rfl, ⟨nd, rfl⟩⟩; (try exact zdd))))); go_meet; case rel => exact ⟨_, (!t106), zfe, H', ⟨by have := HK1.out; first | omega | exact Nat.le_refl _⟩, ⟨by exact zb0 BK104.out⟩, ⟨bp HB.out⟩⟩
        ·replace c10 := Bool.eq_false_iff.mpr c10; subst c10; rw [if_neg zft] at H; have H' := Aside0.mk H; clear H; obtain ⟨z13a, z13b, f13a, f13b⟩ := cl2 BK104; (go_wp2_with (first | (go_at_call 34; (with_reducible refine (impl_KeyValid.calls k1 ((rd_T47 l0 x10_1).f0) false _ A9.out).mono ?_); rintro e w' ⟨rfl, ⟨nd, rfl⟩⟩; (try exact zdd)))); (repeat (go_quiet (first | (go_at_call 34; (with_reducible refine (impl_KeyValid.calls k1 ((rd_T47 l0 x10_1).f0) false _ A9.out).mono ?_); rintro e w' ⟨rfl, ⟨nd, rfl⟩⟩; (try exact zdd))); try go_wp2_with (first | (go_at_call 34; (with_reducible refine (impl_KeyValid.calls k1 ((rd_T47 l0 x10_1).f0) false _ A9.out).mono ?_); rintro e w' ⟨rfl, ⟨nd, rfl⟩⟩; (try exact zdd))))); go_meet; case rel => exact ⟨_, (true), zfe, H', ⟨by have := HK1.out; first | omega | exact Nat.le_refl _⟩, ⟨by exact zb0 BK104.out⟩, ⟨bp HB.out⟩⟩
       case rest =>
        clear HC6; (try clear c2); (try clear c2b0); (try clear c2b1); (try clear c3); (try clear c3b0); (try clear c4); (try clear c4b0); (try clear c5); (try clear c5b0); (try clear z8a); (try clear z8b); (try clear f8a); (try clear f8b); (try clear hx103_0); (try clear hx103_1); (try clear p103); (try clear q103); obtain ⟨kq, x24_5, rfl, HA, HJ5, BK104, HB⟩ := hcut
        cases kq with
        | zero => exact absurd HA.out (by simp [impl_PairsValid.j1])
        | succ kj5 =>
         have H := HA.out; clear HA; simp only [impl_PairsValid.j1] at H; by_cases c14 : x24_5 = true
         ·subst c14; rw [if_pos rfl] at H; obtain rfl := Option.some.inj H; go_wp2; (repeat (go_quiet (fail); try go_wp2)); go_ret; exact ⟨fe, bp HB.out⟩
         ·replace c14 := Bool.eq_false_iff.mpr c14; subst c14; rw [if_neg zft] at H; by_cases c15 : x10_1 > 0
          ·rw [if_pos c15] at H; have c15b0 : decide (0 < x10_1) = true := decide_eq_true c15; clear c15; obtain ⟨ji16, hji16⟩ : ∃ j_ : Int, (wrap64 (x10_1 - 1)) = j_ := ⟨_, rfl⟩; (replace H : (if 0 ≤ (ji16) then (if (ji16) < (l0.length : Int) then (if ((Op.bytesLess (((rd_T47 l0 (ji16)).f0).toList) ((rd_T47 l0 x10_1).f0).toList) = true) then (impl_PairsValid.l0 kj5 l0 l0 (l0.length : Int) (wrap64 (x10_1 + 1))) else (some false)) else (none)) else (none)) = some r := by first | (rw [hji16] at H; exact H) | (simp only [hji16] at H ⊢; exact H)); have hji16w : (IntKind.i64.wrap (x10_1 - 1)) = ji16 := (i64_w _).trans hji16; by_cases c17 : 0 ≤ (ji16)
           ·rw [if_pos c17] at H; have c17b0 : decide (0 ≤ (ji16)) = true := decide_eq_true c17; clear c17; by_cases c18 : (ji16) < (l0.length : Int)
            ·rw [if_pos c18] at H; have c18b0 : decide ((ji16) < (l0.length : Int)) = true := decide_eq_true c18; clear c18; by_cases c19 : ((Op.bytesLess (((rd_T47 l0 (ji16)).f0).toList) ((rd_T47 l0 x10_1).f0).toList) = true)
             ·rw [if_pos c19] at H; have c19b0 : (Op.bytesLess (((rd_T47 l0 (ji16)).f0).toList) ((rd_T47 l0 x10_1).f0).toList) = true := c19; clear c19; have H' := Aside0.mk H; clear H; have p107 : 0 ≤ ((ji16) : Int) := zda; have q107 : (ji16) < (l0.length : Int) := zda; obtain ⟨ad107, e107, hx107_0, hx107_1⟩ := at_T47 HR0.out (ji16) p107 q107; (obtain rfl : ad103 = ad107 := (by injection e107)); replace hx107_0 := hcx HB hx107_0; replace hx107_1 := hcx HB hx107_1; replace p107 := eq_true p107; replace q107 := eq_true q107; obtain ⟨z20a, z20b, f20a, f20b⟩ := cl2 BK104; go_wp2; (repeat (go_quiet (fail); try go_wp2)); go_roundg kj5; (case measure => have := HK1.out; have := HJ5.out; omega); case rel => exact ⟨(wrap64 (x10_1 + 1)), zfe, H', ⟨by have := HK1.out; have := HJ5.out; omega⟩, ⟨bp HB.out⟩⟩
             ·rw [if_neg c19] at H; (have c19b0 : (Op.bytesLess (((rd_T47 l0 (ji16)).f0).toList) ((rd_T47 l0 x10_1).f0).toList) = false := by simpa using c19); clear c19; obtain rfl := Option.some.inj H; have p107 : 0 ≤ ((ji16) : Int) := zda; have q107 : (ji16) < (l0.length : Int) := zda; obtain ⟨ad107, e107, hx107_0, hx107_1⟩ := at_T47 HR0.out (ji16) p107 q107; (obtain rfl : ad103 = ad107 := (by injection e107)); replace hx107_0 := hcx HB hx107_0; replace hx107_1 := hcx HB hx107_1; replace p107 := eq_true p107; replace q107 := eq_true q107; obtain ⟨z21a, z21b, f21a, f21b⟩ := cl2 BK104; go_wp2; (repeat (go_quiet (fail); try go_wp2)); go_ret; exact ⟨by first | rfl | (simp [errW_none, errW_some] <;> rfl) | (simp only [← hji16]; first | rfl | (simp [errW_none, errW_some] <;> rfl)) | (simp [*, errW_none, errW_some] <;> rfl) | (simp only [IntKind.wrap_u8, show ∀ n_ : Int, wrap64 (n_ % 256) = n_ % 256 from fun n_ => by unfold wrap64; omega]; rfl), bp HB.out⟩
            ·rw [if_neg c18] at H; exact absurd H (by simp)
           ·rw [if_neg c17] at H; exact absurd H (by simp)
          ·rw [if_neg c15] at H; have c15b0 : decide (0 < x10_1) = false := decide_eq_false c15; clear c15; have H' := Aside0.mk H; clear H; go_wp2; (repeat (go_quiet (fail); try go_wp2)); go_roundg kj5; (case measure => have := HK1.out; have := HJ5.out; omega); case rel => exact ⟨(wrap64 (x10_1 + 1)), zfe, H', ⟨by have := HK1.out; have := HJ5.out; omega⟩, ⟨bp HB.out⟩⟩
      ·rw [if_neg c5] at H; exact absurd H (by simp)
     ·rw [if_neg c4] at H; exact absurd H (by simp)
    ·rw [if_neg c3] at H; have c3b0 : decide (x10_1 < (l0.length : Int)) = false := decide_eq_false c3; clear c3; obtain rfl := Option.some.inj H; go_wp2; (repeat (go_quiet (fail); try go_wp2)); go_ret; exact ⟨fe, bp HB.out⟩
/-! ### strconv_Itoa: function 30 -/
def strconv_Itoa.f (a0 : Int) : Option (ByteArray) := if -9223372036854775808 ≤ a0 ∧ a0 ≤ 9223372036854775807 then some ⟨(Lib.itoa a0).toArray⟩ else none
theorem strconv_Itoa.calls (a0 : Int) (r : ByteArray) (w : World) (h : strconv_Itoa.f a0 = some r) (HTAB : Txts w := by first | exact HTAB | exact HTAB.below HB.out | exact HTAB.below (bp HB.out)) :
    Calls Tryd.prog 30 #[.int .i64 a0] w fun e w' => e = .returned (.string r) ∧ Below w.heap.size w w' := by
  unfold strconv_Itoa.f at h
  split at h
  · next hh =>
    obtain rfl := Option.some.inj h
    exact (Tryd.strconv_Itoa a0 hh.1 hh.2 w HTAB.tab).mono fun e w' ⟨he, k, os, hw⟩ => ⟨he, hw ▸ below_grow_drawn k os⟩
  · cases h

/-! ### strings_Join: function 31 -/
def strings_Join.f (l0 : List (ByteArray)) (a1 : ByteArray) : Option (ByteArray) := if l0.length ≤ 140737488355328 ∧ (Lib.join (l0.map (·.data.toList)) a1.data.toList).length ≤ 140737488355328 then some ⟨(Lib.join (l0.map (·.data.toList)) a1.data.toList).toArray⟩ else none
theorem strings_Join.calls (A0 : Option Addr) (c0 : Nat) (l0 : List (ByteArray)) (a1 : ByteArray) (r : ByteArray) (w : World) (hr0 : Kd.C Kd.string w A0 l0.length l0) (hc0 : l0.length ≤ c0) (h : strings_Join.f l0 a1 = some r) :
    Calls Tryd.prog 31 #[.slice A0 l0.length c0, .string a1] w fun e w' => e = .returned (.string r) ∧ Below w.heap.size w w' := by
  unfold strings_Join.f at h
  split at h
  · next hh =>
    obtain rfl := Option.some.inj h
    by_cases h0 : l0 = []
    · subst h0
      exact (Tryd.strings_Join_none A0 c0 a1 w).mono fun e w' ⟨he, hw⟩ => ⟨he, hw ▸ Below.refl _ _⟩
    · obtain ⟨bk, o, rfl, hb, hc⟩ := str_cells hr0 h0
      exact Tryd.strings_Join bk o c0 l0 a1 w hc hb hh.1 hc0 hh.2
  · cases h

/-! ### impl_PairsText: function 9 -/
def impl_PairsText.l0 : Nat → List ByteArray → List (S47) → Int → Int → Option (ByteArray)
  | 0, _, _, _, _ => none
  | k + 1, a, b, c, d => if d < c then (if 0 ≤ d then (if d < (b.length : Int) then (if ((rd_T47 b d).f0).size + 1 ≤ 9223372036854775807 then ((strconv_Itoa.f ((rd_T47 b d).f1)).bind fun t111 => (if (((rd_T47 b d).f0) ++ (⟨#[61]⟩ : ByteArray)).size + t111.size ≤ 9223372036854775807 then (if a.length < 8796093022208 then (impl_PairsText.l0 k (a ++ [(((rd_T47 b d).f0) ++ (⟨#[61]⟩ : ByteArray)) ++ t111]) b c (wrap64 (d + 1))) else (none)) else (none))) else (none)) else (none)) else (none)) else ((strings_Join.f a (⟨#[32]⟩ : ByteArray)).bind fun t115 => (some t115))
def impl_PairsText.f (k : Nat) (l0 : List (S47)) : Option (ByteArray) := (impl_PairsValid.f k l0).bind fun t108 => (if t108 = true then (impl_PairsText.l0 k ([] : List ByteArray) l0 (l0.length : Int) 0) else (some (⟨#[]⟩ : ByteArray)))
theorem impl_PairsText.mono_l : ∀ k, (∀ y0 y1 y2 y3, LeO (impl_PairsText.l0 k y0 y1 y2 y3) (impl_PairsText.l0 (k + 1) y0 y1 y2 y3))
  | 0 => fun _ _ _ _ r h => by simp [impl_PairsText.l0] at h
  | k + 1 => by
    have ih0 := impl_PairsText.mono_l k
    · intro y0 y1 y2 y3
      unfold impl_PairsText.l0
      repeat' with_reducible first | exact ih0 _ _ _ _ | exact impl_PairsValid.mono .. | exact LeO.refl _ | exact LeO.none _ | refine LeO.ite ?_ ?_ | refine LeO.bind ?_ (fun _ => ?_)
theorem impl_PairsText.mono : ∀ a0 k, LeO (impl_PairsText.f k a0) (impl_PairsText.f (k + 1) a0) := by
 intro a0 k; have ih0 := impl_PairsText.mono_l k; unfold impl_PairsText.f; repeat' with_reducible first | exact ih0 _ _ _ _ | exact impl_PairsValid.mono .. | exact LeO.refl _ | exact LeO.none _ | refine LeO.ite ?_ ?_ | refine LeO.bind ?_ (fun _ => ?_)
def impl_PairsText.T7 : Bool × List (List Nat × List Nat) := (true, [([], []), ([], []), ([1], [1]), ([2], [2]), ([], []), ([4], [4]), ([5], [5]), ([3, 6], [3, 6]), ([7], [7]), ([0, 8, 6], [0, 8]), ([9, 9, 0, 1, 2, 3, 4, 5, 6, 7, 8, 9], [0, 9])])
def impl_PairsText.B7 : List Nat := [0, 0, 2, 6, 0, 16, 48, 126, 254, 511, 1023]
theorem impl_PairsText.tab7 : rtab .any (opsOf Tryd.f9 7) = impl_PairsText.T7 := by kernel_rfl
theorem impl_PairsText.bits7 : waitsOk impl_PairsText.T7.2 impl_PairsText.B7 = true := by kernel_rfl
def q9m0 : Array Bool := Array.replicate 11 false
def q9m1 : Array Bool := mkB 11 1
def q9m2 : Array Bool := mkB 11 3
def q9m3 : Array Bool := mkB 11 19
def q9m4 : Array Bool := mkB 11 23
def q9m5 : Array Bool := mkB 11 31
def q9m6 : Array Bool := mkB 11 63
def q9m7 : Array Bool := mkB 11 127
def q9m8 : Array Bool := mkB 11 255
def q9m9 : Array Bool := mkB 11 511
def q9m10 : Array Bool := mkB 11 1023
def q9m11 : Array Bool := mkB 11 2047
set_option maxHeartbeats 8000000 in
set_option maxRecDepth 100000 in
theorem impl_PairsText.calls (k : Nat) (A0 : Option Addr) (c0 : Nat) (l0 : List (S47)) (r : ByteArray) (w : World) (hr0 : Kd.C k47 w A0 l0.length l0) (hc0 : l0.length ≤ c0) (h : impl_PairsText.f k l0 = some r) (HTAB : Txts w := by first | exact HTAB | exact HTAB.below HB.out | exact HTAB.below (bp HB.out)) :
    Calls Tryd.prog 9 #[.slice A0 l0.length c0] w fun e w' => e = .returned (.string r) ∧ Below w.heap.size w w' := by
 have hu47 := Tryd.underlying47; have HR0 := Aside0.mk hr0; have HC0 := Aside0.mk hc0; clear hr0 hc0; have HB := Aside0.mk (Below.refl w.heap.size w); unfold impl_PairsText.f at h; have H := h; clear h; obtain ⟨t108, A2, H⟩ := zbd H; (try dsimp only at H); have HC3 := Aside0.mk H; clear H; go_enter Tryd.func9, Tryd.ntmps9; (go_upto_if 8 with (first | ((with_reducible refine gate_callee (f := 11) rfl ?_); refine goesL_ (some 7) rfl rfl Tryd.func11 (by kernel_rfl) rfl #[.slice A0 l0.length c0] rfl (by (try simp only [List.map_toArray, List.map_cons, List.map_nil]); first | done | rfl | (simp only [List.length_drop, List.length_take]; rfl)) ?_; (with_reducible refine (impl_PairsValid.calls k _ _ l0 t108 _ ?side1 ?side2 A2.out).mono ?_); (case side1 => exact cc HR0.out); (case side2 => exact HC0.out); rintro e w4 ⟨rfl, hb⟩; refine ⟨_, rfl, ?_⟩; replace HB := an0 HB hb; (try clear hb); (try clear hb2); (try clear hk); (try clear hi); (try clear hgw)))); (try simp only [Act.put, List.setIfInBounds_toArray, List.set_cons_zero, List.set_cons_succ]); have H := HC3.out; clear HC3; by_cases c5 : t108 = true
 ·subst c5; rw [if_pos rfl] at H; have H' := Aside0.mk H; clear H; go_wp2; go_loopg [3, 11] k (fun kq v3 v11 w' => ∃ (x3_1 : List ByteArray) (x11_1 : Int), v11 = .int .i64 x11_1 ∧ Aside0 (impl_PairsText.l0 kq x3_1 l0 (l0.length : Int) x11_1 = some r) ∧ Aside0 (kq ≤ k) ∧ Aside0 (Kd.R Kd.string 9 w' w.heap.size (fun _ => True) v3 x3_1) ∧ Aside0 (Below w.heap.size w w')); case atStart => exact ⟨(([] : List ByteArray)), (0), zfe, H', ⟨Nat.le_refl _⟩, ⟨by first | exact Kd.R_nil _ _ _ _ _ | exact Kd.N_nil _ _ _ _ _ | exact Kd.V_nil _ _ _ _ _ | exact Kd.Q_nil _ _ _ _ _ | exact Kd.S_nil _ _ _ _ _⟩, ⟨bp HB.out⟩⟩
  case round =>
   clear H'; (try clear c1); (try clear p2); (try clear c5); obtain ⟨x3_1, x11_1, rfl, HA, HK1, HO_3, HB⟩ := hrel
   cases gk with
   | zero => exact absurd HA.out (by simp [impl_PairsText.l0])
   | succ k1 =>
    have H := HA.out; clear HA; simp only [impl_PairsText.l0] at H; by_cases c6 : x11_1 < (l0.length : Int)
    ·rw [if_pos c6] at H; have c6b0 : decide (x11_1 < (l0.length : Int)) = true := decide_eq_true c6; clear c6; (first | rw [c6b0] | (simp only [i64_w, i32_w]; rw [c6b0]) | skip); by_cases c7 : 0 ≤ x11_1
     ·rw [if_pos c7] at H; have c7b0 : decide (0 ≤ x11_1) = true := decide_eq_true c7; clear c7; by_cases c8 : x11_1 < (l0.length : Int)
      ·rw [if_pos c8] at H; have c8b0 : decide (x11_1 < (l0.length : Int)) = true := decide_eq_true c8; clear c8; by_cases c9 : ((rd_T47 l0 x11_1).f0).size + 1 ≤ 9223372036854775807
       ·rw [if_pos c9] at H; have c9b0 := eq_true c9; have c9b1 : decide (((rd_T47 l0 x11_1).f0).size + 1 ≤ 9223372036854775807) = true := decide_eq_true c9; (try have c9b2 : (9223372036854775807 < ((rd_T47 l0 x11_1).f0).size + 1) = False := eq_false (Nat.not_lt.2 c9)); obtain ⟨t111, A10, H⟩ := zbd H; (try dsimp only at H); by_cases c11 : (((rd_T47 l0 x11_1).f0) ++ (⟨#[61]⟩ : ByteArray)).size + t111.size ≤ 9223372036854775807
        ·rw [if_pos c11] at H; have c11b0 := eq_true c11; have c11b1 : decide ((((rd_T47 l0 x11_1).f0) ++ (⟨#[61]⟩ : ByteArray)).size + t111.size ≤ 9223372036854775807) = true := decide_eq_true c11; (try have c11b2 : (9223372036854775807 < (((rd_T47 l0 x11_1).f0) ++ (⟨#[61]⟩ : ByteArray)).size + t111.size) = False := eq_false (Nat.not_lt.2 c11)); (try (have c11b3 := c11b2; conv at c11b3 => (lhs; simp [go_sem]))); by_cases c12 : x3_1.length < 8796093022208
         ·rw [if_pos c12] at H; have LMc12 := Aside0.mk c12; clear c12; obtain ⟨y112, hy112⟩ : ∃ y_ : List ByteArray, y_ = (x3_1 ++ [(((rd_T47 l0 x11_1).f0) ++ (⟨#[61]⟩ : ByteArray)) ++ t111]) := ⟨_, rfl⟩; (replace H : (impl_PairsText.l0 k1 y112 l0 (l0.length : Int) (wrap64 (x11_1 + 1))) = some r := zsy H hy112); have Ny112 := Aside0.mk hy112; clear hy112; have H' := Aside0.mk H; clear H; have p109 : 0 ≤ (x11_1 : Int) := zda; have q109 : x11_1 < (l0.length : Int) := zda; obtain ⟨ad109, e109, hx109_0, hx109_1⟩ := at_T47 HR0.out x11_1 p109 q109; cases e109; replace hx109_0 := hcx HB hx109_0; replace hx109_1 := hcx HB hx109_1; replace p109 := eq_true p109; replace q109 := eq_true q109; (try go_wp2_with (first | ((with_reducible refine gate_dst (N := 5) rfl ?_); refine bxe (N := 5) (cs := #[.string (⟨#[]⟩ : ByteArray), .int .i64 0]) (t := 47) ?_; intro gb110 hg w13 hbox hb; have n_ := zn5 (Aside0.mk (Kd.R_below (kr HO_3.out) hb)) (an0 HB hb) (Aside0.mk (hbox)) (an2 HB hg) (an2 HB hg); clear HO_3 HB; obtain ⟨HO_3, HB, BK110, GW110, GE110⟩ := n_; clear hb hbox hg; obtain ⟨z14a, z14b, f14a, f14b⟩ := cl2 BK110))); (have n0_ : Aside0 (Kd.R Kd.string 9 ((w13.setCell ⟨gb110, 0, none⟩ (.string ((rd_T47 l0 x11_1).f0))).setCell ⟨gb110, 1, none⟩ (.int .i64 ((rd_T47 l0 x11_1).f1))) w.heap.size (fun _ => True) u3 x3_1) := ⟨by (with_reducible repeat (first | apply Kd.R_alloc | apply Kd.R_drewN | apply Kd.R_drew)); exact Kd.R_mono (Kd.R_far (p := ⟨gb110, 1, none⟩) (Kd.R_far (p := ⟨gb110, 0, none⟩) (Kd.R_types HO_3.out BK110.out (by decide)) (fun _ hk => hk.2) (.string ((rd_T47 l0 x11_1).f0))) (fun _ hk => hk.2) (.int .i64 ((rd_T47 l0 x11_1).f1))) (fun _ hk => trivial)⟩); (have n1_ : Aside0 (((w13.setCell ⟨gb110, 0, none⟩ (.string ((rd_T47 l0 x11_1).f0))).setCell ⟨gb110, 1, none⟩ (.int .i64 ((rd_T47 l0 x11_1).f1))).heap[gb110]? = some (.cells #[.string ((rd_T47 l0 x11_1).f0), .int .i64 ((rd_T47 l0 x11_1).f1)] 47 (0, 0))) := ⟨by exact zb0 BK110.out⟩); have n2_ : Aside0 (Below w.heap.size w ((w13.setCell ⟨gb110, 0, none⟩ (.string ((rd_T47 l0 x11_1).f0))).setCell ⟨gb110, 1, none⟩ (.int .i64 ((rd_T47 l0 x11_1).f1)))) := ⟨bp HB.out⟩; (try clear HO_3); (try clear BK110); (try clear HB); generalize ((w13.setCell ⟨gb110, 0, none⟩ (.string ((rd_T47 l0 x11_1).f0))).setCell ⟨gb110, 1, none⟩ (.int .i64 ((rd_T47 l0 x11_1).f1))) = w15 at n0_ n1_ n2_ ⊢; have HO_3 := n0_; have BK110 := n1_; have HB := n2_; clear n0_ n1_ n2_; have n0_ := Aside0.mk (Kd.R_drew HO_3.out); have n1_ := Aside0.mk (blk_drew BK110.out); have n2_ := Aside0.mk (below_drew1 HB.out); clear HO_3; clear BK110; clear HB; have HO_3 := n0_; have BK110 := n1_; have HB := n2_; clear n0_ n1_ n2_; (refine start_ (n := 11) (S := fun w' => w'.cell? ⟨gb110, 0, none⟩ = some (.string ((rd_T47 l0 x11_1).f0)) ∧ w'.cell? ⟨gb110, 1, none⟩ = some (.int .i64 ((rd_T47 l0 x11_1).f1))) (ds := []) q9m0 (by kernel_rfl) rfl rfl ⟨(blk_cell BK110.out 0).trans rfl, (blk_cell BK110.out 1).trans rfl⟩ (fun hHeld => ?_); refine with_tabW impl_PairsText.tab7 impl_PairsText.bits7 (fun HT_ HW_ => ?_)); generalize w15.drew = w16 at HO_3 BK110 HB hHeld ⊢; refine zp 0 15 q9m1 HT_.out ?_; refine zp 1 16 q9m2 HT_.out ?_; refine zp 4 19 q9m3 HT_.out ?_; refine tak (i := 2) (N := some 17) q9m4 rfl rfl HT_.out HW_.out hHeld ?_; refine zp 3 18 q9m5 HT_.out ?_; refine tak (i := 5) (N := some 20) q9m6 rfl rfl HT_.out HW_.out hHeld ?_; refine ones (i := 6) (N := some 21) q9m7 rfl rfl HT_.out (fun K hK => ?_); refine gos Tryd.func30 #[.int .i64 ((rd_T47 l0 x11_1).f1)] rfl ?_; (with_reducible refine (strconv_Itoa.calls ((rd_T47 l0 x11_1).f1) t111 _ A10.out).mono ?_); rintro e w17 ⟨rfl, hb⟩; refine ⟨_, rfl, ?_⟩; have n0_ := Aside0.mk (Kd.R_below (kr HO_3.out) hb); have n1_ := an1 BK110 hb; have n2_ := an0 HB hb; clear HO_3; clear BK110; clear HB; have HO_3 := n0_; have BK110 := n1_; have HB := n2_; clear n0_ n1_ n2_; (try clear hb); (try clear hk); refine hK.out _ _ (zc2 BK110) (fun hHeld => ?_); clear hK K; refine norm_ (a' := ?_) ?_ ?_; rotate_left
          ·show Act.put _ (some 21) _ = _; simp only [Act.put, List.setIfInBounds_toArray, List.set_cons_zero, List.set_cons_succ, i64_w, i32_w]; rfl
          refine zp 7 22 q9m8 HT_.out ?_; refine ones (i := 8) (N := some 23) q9m9 rfl rfl HT_.out (fun K hK => ?_); (refine value_ (w1 := ?_) (v := ?_) (by rfl) rfl ?_ ?_); rotate_left 2
          ·go_simp; constructor
           ·rfl
           ·rfl
          refine hK.out _ _ ⟨(blk_cell (blk_alloc BK110.out _) 0).trans rfl, (blk_cell (blk_alloc BK110.out _) 1).trans rfl⟩ (fun hHeld => ?_); clear hK K; refine norm_ (a' := ?_) ?_ ?_; rotate_left
          ·show Act.put _ (some 23) _ = _; simp only [Act.put, List.setIfInBounds_toArray, List.set_cons_zero, List.set_cons_succ, i64_w, i32_w]; rfl
          refine ones (i := 9) (N := some 24) q9m10 rfl rfl HT_.out (fun K hK => ?_); (refine Kd.R_append_step Kd.string (w0 := w) w.heap.size (by rfl) (.tmp 15) (.tmp 23) 45 9 (.string ⟨#[]⟩) 16 rfl Tryd.underlying45 info9 rfl (by decide) (by omega) u3 x3_1 ((((rd_T47 l0 x11_1).f0) ++ (⟨#[61]⟩ : ByteArray)) ++ t111) [.string ((((rd_T47 l0 x11_1).f0) ++ (⟨#[61]⟩ : ByteArray)) ++ t111)] (fun _ => True) (fun _ => False) rfl rfl ?aP (fun _ hk => hk.elim) ?aF ?aO ?aB ?aS ?aL ?_); (case aP => exact rfl); (case aB => exact (bp HB.out)); (case aF => exact (fun _ _ => trivial)); (case aO => exact (kr HO_3.out)); (case aS => exact (below_size (bp HB.out))); (case aL => have := LMc12.out; omega); intro v113 w18 ho hb hg hat; rw [← Ny112.out] at ho; (have n0_ := Aside0.mk (blk_grown (g := gb110) (o := .cells #[.string ((rd_T47 l0 x11_1).f0), .int .i64 ((rd_T47 l0 x11_1).f1)] 47 (0, 0)) (kb BK110.out) hg (Kd.R_ne HO_3.out BK110.out (by decide)))); have n1_ := Aside0.mk (hb); have n2_ := Aside0.mk (ho); clear BK110; clear HB; clear HO_3; have BK110 := n0_; have HB := n1_; have HO114 := n2_; clear n0_ n1_ n2_; clear ho hb hg hat; refine hK.out _ _ (zc2 BK110) (fun hHeld => ?_); clear hK K; refine norm_ (a' := ?_) ?_ ?_; rotate_left
          ·show Act.put _ (some 24) _ = _; simp only [Act.put, List.setIfInBounds_toArray, List.set_cons_zero, List.set_cons_succ, i64_w, i32_w]; rfl
          refine zp 10 3 q9m11 HT_.out ?_; (refine done_ (done_of HT_.out (by kernel_rfl)) ?_); (try go_wp2); go_roundg k1; (case measure => have := HK1.out; omega); case rel => exact ⟨(y112), (wrap64 (x11_1 + 1)), zfe, H', ⟨by have := HK1.out; omega⟩, ⟨by (with_reducible repeat (first | apply Kd.R_alloc | apply Kd.R_drewN | apply Kd.R_drew)); exact HO114.out⟩, ⟨bp HB.out⟩⟩
         ·rw [if_neg c12] at H; exact absurd H (by simp)
        ·rw [if_neg c11] at H; exact absurd H (by simp)
       ·rw [if_neg c9] at H; exact absurd H (by simp)
      ·rw [if_neg c8] at H; exact absurd H (by simp)
     ·rw [if_neg c7] at H; exact absurd H (by simp)
    ·rw [if_neg c6] at H; have c6b0 : decide (x11_1 < (l0.length : Int)) = false := decide_eq_false c6; clear c6; (first | rw [c6b0] | (simp only [i64_w, i32_w]; rw [c6b0]) | skip); obtain ⟨t115, A19, H⟩ := zbd H; (try dsimp only at H); obtain rfl := Option.some.inj H; obtain ⟨Ao20, co20, eo20⟩ := Kd.R_slice HO_3.out; subst eo20; (go_wp2_with (first | ((with_reducible refine gate_callee (f := 31) rfl ?_); refine goesL_ (some 27) rfl rfl Tryd.func31 (by kernel_rfl) rfl #[.slice Ao20 x3_1.length co20, .string (⟨#[32]⟩ : ByteArray)] rfl (by (try simp only [List.map_toArray, List.map_cons, List.map_nil]); first | done | rfl | (simp only [List.length_drop, List.length_take]; rfl)) ?_; (with_reducible refine (strings_Join.calls _ _ x3_1 (⟨#[32]⟩ : ByteArray) t115 _ ?side1 ?side2 A19.out).mono ?_); (case side1 => repeat (first | exact (Kd.R_reads' HO_3.out).2.2 | (with_reducible refine Kd.C_alloc ?_ _) | (with_reducible refine Kd.C_drewN ?_ _) | (with_reducible refine Kd.C_drew ?_))); (case side2 => exact (Kd.R_reads' HO_3.out).2.1); rintro e w21 ⟨rfl, hb⟩; refine ⟨_, rfl, ?_⟩; have n_ := zn2 (Aside0.mk (Kd.R_below (kr HO_3.out) hb)) (an0 HB hb); clear HO_3 HB; obtain ⟨HO_3, HB⟩ := n_; (try clear hb); (try clear hb2); (try clear hk); (try clear hi); (try clear hgw)))); go_ret; exact ⟨fe, bp HB.out⟩
 ·replace c5 := Bool.eq_false_iff.mpr c5; subst c5; rw [if_neg zft] at H; obtain rfl := Option.some.inj H; go_wp2; go_ret; exact ⟨fe, bp HB.out⟩
/-! ### impl_keysFrom: function 79 -/
def impl_keysFrom.f : Nat → Int → Option (Int)
  | 0, _ => none
  | k + 1, a0 => if a0 ≥ 4 then (some 1) else ((impl_keysFrom.f k (wrap64 (a0 + 1))).bind fun t116 => (some (wrap64 (1 + (wrap64 (26 * t116))))))
theorem impl_keysFrom.mono_l : ∀ k, (∀ y0, LeO (impl_keysFrom.f k y0) (impl_keysFrom.f (k + 1) y0))
  | 0 => fun _ r h => by simp [impl_keysFrom.f] at h
  | k + 1 => by
    have ih0 := impl_keysFrom.mono_l k
    · intro y0
      unfold impl_keysFrom.f
      repeat' with_reducible first | exact ih0 _ | exact LeO.refl _ | exact LeO.none _ | refine LeO.ite ?_ ?_ | refine LeO.bind ?_ (fun _ => ?_)
theorem impl_keysFrom.mono : ∀ a0 k, LeO (impl_keysFrom.f k a0) (impl_keysFrom.f (k + 1) a0) := by
 intro a0 k; have ih0 := impl_keysFrom.mono_l k; exact ih0 a0
set_option maxHeartbeats 8000000 in
set_option maxRecDepth 100000 in
theorem impl_keysFrom.calls (k : Nat) : ∀ (a0 : Int) (r : Int) (w : World) (h : impl_keysFrom.f k a0 = some r),
    Calls Tryd.prog 79 #[.int .i64 a0] w fun e w' => e = .returned (.int .i64 r) ∧ Drawn0 w w' := by
 induction k using Nat.strongRecOn with
 | _ k ih =>
 intro a0 r w h
 cases k with
 | zero => exact absurd h (by simp [impl_keysFrom.f])
 | succ k =>
 simp only [impl_keysFrom.f] at h; have H : (if a0 ≥ 4 then (some 1) else ((impl_keysFrom.f k (wrap64 (a0 + 1))).bind fun t116 => (some (wrap64 (1 + (wrap64 (26 * t116))))))) = some r := h; clear h; by_cases c2 : a0 ≥ 4
 ·rw [if_pos c2] at H; have c2b0 : decide (4 ≤ a0) = true := decide_eq_true c2; clear c2; obtain rfl := Option.some.inj H; go_enter Tryd.func79, Tryd.ntmps79; go_wp2; go_ret; exact ⟨zfe, zdr⟩
 ·rw [if_neg c2] at H; have c2b0 : decide (4 ≤ a0) = false := decide_eq_false c2; clear c2; obtain ⟨t116, A3, H⟩ := zbd H; (try dsimp only at H); obtain rfl := Option.some.inj H; go_enter Tryd.func79, Tryd.ntmps79; (go_wp2_with (first | ((with_reducible refine gate_callee (f := 79) rfl ?_); refine goesL_ (some 7) rfl rfl Tryd.func79 (by kernel_rfl) rfl #[.int .i64 (wrap64 (a0 + 1))] rfl (by (try simp only [List.map_toArray, List.map_cons, List.map_nil]); first | done | rfl | (simp only [List.length_drop, List.length_take]; rfl)) ?_; (with_reducible refine (ih k (by omega) (wrap64 (a0 + 1)) t116 _ A3.out).mono ?_); rintro e w' ⟨rfl, ⟨nd, rfl⟩⟩; refine ⟨_, rfl, ?_⟩))); go_ret; exact ⟨zfe, zdr⟩
/-! ### impl_rankBelow: function 63 -/
def impl_rankBelow.f : Nat → ByteArray → Int → Option (Int)
  | 0, _, _ => none
  | k + 1, a0, a1 => if a0.toList = ([] : List UInt8) then (some 0) else (if 0 < (a0.size : Int) then ((impl_keysFrom.f k a1).bind fun t117 => (if 1 ≤ (a0.size : Int) then ((impl_rankBelow.f k (a0.extract 1 a0.size) (wrap64 (a1 + 1))).bind fun t118 => (some (wrap64 ((wrap64 (1 + (wrap64 ((((bt a0 0) - 97) % 256) * t117)))) + t118)))) else (none))) else (none))
theorem impl_rankBelow.mono_l : ∀ k, (∀ y0 y1, LeO (impl_rankBelow.f k y0 y1) (impl_rankBelow.f (k + 1) y0 y1))
  | 0 => fun _ _ r h => by simp [impl_rankBelow.f] at h
  | k + 1 => by
    have ih0 := impl_rankBelow.mono_l k
    · intro y0 y1
      unfold impl_rankBelow.f
      repeat' with_reducible first | exact ih0 _ _ | exact impl_keysFrom.mono .. | exact LeO.refl _ | exact LeO.none _ | refine LeO.ite ?_ ?_ | refine LeO.bind ?_ (fun _ => ?_)
theorem impl_rankBelow.mono : ∀ a0 a1 k, LeO (impl_rankBelow.f k a0 a1) (impl_rankBelow.f (k + 1) a0 a1) := by
 intro a0 a1 k; have ih0 := impl_rankBelow.mono_l k; exact ih0 a0 a1
def impl_rankBelow.T3 : Bool × List (List Nat × List Nat) := (true, [([], []), ([0], [0]), ([1], [1]), ([2], [2]), ([], []), ([4], [4]), ([3, 5], [3, 5]), ([6], [6]), ([], []), ([8], [8]), ([], []), ([10], [10]), ([9, 11, 5], [9, 11]), ([7, 12], [7, 12]), ([13, 12, 0, 1, 2, 3, 4, 5, 6, 7, 8, 9, 10, 11, 12, 13], [13])])
def impl_rankBelow.B3 : List Nat := [0, 1, 3, 7, 0, 16, 63, 127, 0, 256, 0, 1024, 3888, 8191, 16383]
theorem impl_rankBelow.tab3 : rtab .any (opsOf Tryd.f63 3) = impl_rankBelow.T3 := by kernel_rfl
theorem impl_rankBelow.bits3 : waitsOk impl_rankBelow.T3.2 impl_rankBelow.B3 = true := by kernel_rfl
def q63m0 : Array Bool := Array.replicate 15 false
def q63m1 : Array Bool := mkB 15 1
def q63m2 : Array Bool := mkB 15 17
def q63m3 : Array Bool := mkB 15 273
def q63m4 : Array Bool := mkB 15 785
def q63m5 : Array Bool := mkB 15 1809
def q63m6 : Array Bool := mkB 15 3857
def q63m7 : Array Bool := mkB 15 3859
def q63m8 : Array Bool := mkB 15 3863
def q63m9 : Array Bool := mkB 15 3871
def q63m10 : Array Bool := mkB 15 3903
def q63m11 : Array Bool := mkB 15 3967
def q63m12 : Array Bool := mkB 15 4095
def q63m13 : Array Bool := mkB 15 8191
def q63m14 : Array Bool := mkB 15 16383
def q63m15 : Array Bool := mkB 15 32767
set_option maxHeartbeats 8000000 in
set_option maxRecDepth 100000 in
theorem impl_rankBelow.calls (k : Nat) : ∀ (a0 : ByteArray) (a1 : Int) (r : Int) (w : World) (h : impl_rankBelow.f k a0 a1 = some r),
    Calls Tryd.prog 63 #[.string a0, .int .i64 a1] w fun e w' => e = .returned (.int .i64 r) ∧ Below w.heap.size w w' := by
 induction k using Nat.strongRecOn with
 | _ k ih =>
 intro a0 a1 r w h
 cases k with
 | zero => exact absurd h (by simp [impl_rankBelow.f])
 | succ k =>
 simp only [impl_rankBelow.f] at h; have HB := Aside0.mk (Below.refl w.heap.size w); have H : (if a0.toList = ([] : List UInt8) then (some 0) else (if 0 < (a0.size : Int) then ((impl_keysFrom.f k a1).bind fun t117 => (if 1 ≤ (a0.size : Int) then ((impl_rankBelow.f k (a0.extract 1 a0.size) (wrap64 (a1 + 1))).bind fun t118 => (some (wrap64 ((wrap64 (1 + (wrap64 ((((bt a0 0) - 97) % 256) * t117)))) + t118)))) else (none))) else (none))) = some r := h; clear h; by_cases c3 : a0.toList = ([] : List UInt8)
 ·rw [if_pos c3] at H; have c3b0 : (a0.toList == ([] : List UInt8)) = true := beq_iff_eq.mpr c3; have c3b1 : (a0.toList != ([] : List UInt8)) = false := bne_eq_false_iff_eq.mpr c3; clear c3; obtain rfl := Option.some.inj H; go_enter Tryd.func63, Tryd.ntmps63; go_wp2; go_ret; exact ⟨fe, bp HB.out⟩
 ·rw [if_neg c3] at H; have c3b0 : (a0.toList == ([] : List UInt8)) = false := beq_eq_false_iff_ne.mpr c3; have c3b1 : (a0.toList != ([] : List UInt8)) = true := bne_iff_ne.mpr c3; by_cases c4 : 0 < (a0.size : Int)
  ·rw [if_pos c4] at H; have c4b0 : decide (0 < (a0.size : Int)) = true := decide_eq_true c4; (have c4b1 : decide (0 < a0.size) = true := decide_eq_true (by omega)); clear c4; obtain ⟨t117, A6, H⟩ := zbd H; (try dsimp only at H); by_cases c7 : 1 ≤ (a0.size : Int)
   ·rw [if_pos c7] at H; have c7b0 := eq_true c7; have c7b1 : decide (1 ≤ (a0.size : Int)) = true := decide_eq_true c7; clear c7; obtain ⟨t118, A8, H⟩ := zbd H; (try dsimp only at H); obtain rfl := Option.some.inj H; go_enter Tryd.func63, Tryd.ntmps63; (try go_wp2); have n0_ := Aside0.mk (below_drew1 HB.out); clear HB; have HB := n0_; clear n0_; (have p5 : 0 ≤ (0 : Int) := (by omega)); (have q5 : 0 < a0.size := (by have : (0 : Int) < (a0.size : Int) := zda; omega)); have hx5 : ∀ h : 0 < a0.size, ((a0[0]'h).toNat : Int) = bt a0 0 := bt_at a0 0; clear p5; have qi5 : (0 < (a0.size : Int)) = True := eq_true (zda); replace q5 := eq_true q5; (refine start_ (n := 15) (S := fun w' => True) (ds := []) q63m0 (by kernel_rfl) rfl rfl trivial (fun hHeld => ?_); refine with_tabW impl_rankBelow.tab3 impl_rankBelow.bits3 (fun HT_ HW_ => ?_)); generalize w.drew = w9 at HB hHeld ⊢; refine zp 0 7 q63m1 HT_.out ?_; refine zp 4 11 q63m2 HT_.out ?_; refine zp 8 15 q63m3 HT_.out ?_; refine zp 9 16 q63m4 HT_.out ?_; refine zp 10 17 q63m5 HT_.out ?_; refine zp 11 18 q63m6 HT_.out ?_; (refine take_ (i := 1) (N := some 8) (v := ?_) (a' := ?_) q63m7 rfl rfl (take_ofW HT_.out HW_.out (by kernel_rfl)) (fun _ _ _ h => h) (Or.inl ⟨by rfl, ?_⟩) hHeld ?_ ?_); rotate_left
    ·intro w' _; go_simp; with_reducible rfl
    (rotate_left; focus (simp only [Act.put, List.setIfInBounds_toArray, List.set_cons_zero, List.set_cons_succ, i64_w, i32_w]; rfl)); refine zp 2 9 q63m8 HT_.out ?_; refine zp 3 10 q63m9 HT_.out ?_; refine ones (i := 5) (N := some 12) q63m10 rfl rfl HT_.out (fun K hK => ?_); refine gos Tryd.func79 #[.int .i64 a1] rfl ?_; (with_reducible refine (impl_keysFrom.calls k a1 t117 _ A6.out).mono ?_); rintro e w' ⟨rfl, ⟨nd, rfl⟩⟩; refine ⟨_, rfl, ?_⟩; refine hK.out _ _ trivial (fun hHeld => ?_); clear hK K; refine norm_ (a' := ?_) ?_ ?_; rotate_left
    ·show Act.put _ (some 12) _ = _; simp only [Act.put, List.setIfInBounds_toArray, List.set_cons_zero, List.set_cons_succ, i64_w, i32_w]; rfl
    refine zp 6 13 q63m11 HT_.out ?_; refine zp 7 14 q63m12 HT_.out ?_; refine ones (i := 12) (N := some 19) q63m13 rfl rfl HT_.out (fun K hK => ?_); refine gos Tryd.func63 #[.string (a0.extract 1 a0.size), .int .i64 (wrap64 (a1 + 1))] rfl ?_; (with_reducible refine (ih k (by omega) (a0.extract 1 a0.size) (wrap64 (a1 + 1)) t118 _ A8.out).mono ?_); rintro e w10 ⟨rfl, hb⟩; refine ⟨_, rfl, ?_⟩; have n0_ := an0 HB hb; clear HB; have HB := n0_; clear n0_; (try clear hb); (try clear hb2); (try clear hk); (try clear hi); (try clear hgw); refine hK.out _ _ trivial (fun hHeld => ?_); clear hK K; refine norm_ (a' := ?_) ?_ ?_; rotate_left
    ·show Act.put _ (some 19) _ = _; simp only [Act.put, List.setIfInBounds_toArray, List.set_cons_zero, List.set_cons_succ, i64_w, i32_w]; rfl
    refine zp 13 20 q63m14 HT_.out ?_; refine zp 14 4 q63m15 HT_.out ?_; (refine done_ (done_of HT_.out (by kernel_rfl)) ?_); (try go_wp2); go_ret; exact ⟨fe, bp HB.out⟩
   ·rw [if_neg c7] at H; exact absurd H (by simp)
  ·rw [if_neg c4] at H; exact absurd H (by simp)
/-! ### impl_KeyRank: function 36 -/
def impl_KeyRank.f (k : Nat) (a0 : ByteArray) : Option (Int) := (impl_KeyValid.f k a0).bind fun t119 => (if t119 = true then ((impl_rankBelow.f k a0 1).bind fun t120 => (some (wrap64 (t120 - 1)))) else (some (-1)))
theorem impl_KeyRank.mono : ∀ a0 k, LeO (impl_KeyRank.f k a0) (impl_KeyRank.f (k + 1) a0) := by
 intro a0 k; unfold impl_KeyRank.f; repeat' with_reducible first | exact impl_KeyValid.mono .. | exact impl_rankBelow.mono .. | exact LeO.refl _ | exact LeO.none _ | refine LeO.ite ?_ ?_ | refine LeO.bind ?_ (fun _ => ?_)
set_option maxHeartbeats 8000000 in
set_option maxRecDepth 100000 in
theorem impl_KeyRank.calls (k : Nat) (a0 : ByteArray) (r : Int) (w : World) (h : impl_KeyRank.f k a0 = some r) :
    Calls Tryd.prog 36 #[.string a0] w fun e w' => e = .returned (.int .i64 r) ∧ Below w.heap.size w w' := by
 have HB := Aside0.mk (Below.refl w.heap.size w); unfold impl_KeyRank.f at h; have H := h; clear h; obtain ⟨t119, A2, H⟩ := zbd H; (try dsimp only at H); have HC3 := Aside0.mk H; clear H; go_enter Tryd.func36, Tryd.ntmps36; (go_upto_if 5 with (first | ((with_reducible refine gate_callee (f := 34) rfl ?_); refine goesL_ (some 4) rfl rfl Tryd.func34 (by kernel_rfl) rfl #[.string a0] rfl (by (try simp only [List.map_toArray, List.map_cons, List.map_nil]); first | done | rfl | (simp only [List.length_drop, List.length_take]; rfl)) ?_; (with_reducible refine (impl_KeyValid.calls k a0 t119 _ A2.out).mono ?_); rintro e w' ⟨rfl, ⟨nd, rfl⟩⟩; refine ⟨_, rfl, ?_⟩))); (try simp only [Act.put, List.setIfInBounds_toArray, List.set_cons_zero, List.set_cons_succ]); have H := HC3.out; clear HC3; by_cases c4 : t119 = true
 ·subst c4; rw [if_pos rfl] at H; obtain ⟨t120, A5, H⟩ := zbd H; (try dsimp only at H); obtain rfl := Option.some.inj H; (go_wp2_with (first | ((with_reducible refine gate_callee (f := 63) rfl ?_); refine goesL_ (some 7) rfl rfl Tryd.func63 (by kernel_rfl) rfl #[.string a0, .int .i64 1] rfl (by (try simp only [List.map_toArray, List.map_cons, List.map_nil]); first | done | rfl | (simp only [List.length_drop, List.length_take]; rfl)) ?_; (with_reducible refine (impl_rankBelow.calls k a0 1 t120 _ A5.out).mono ?_); rintro e w6 ⟨rfl, hb⟩; refine ⟨_, rfl, ?_⟩; replace HB := an0 HB hb; (try clear hb); (try clear hb2); (try clear hk); (try clear hi); (try clear hgw)))); go_ret; exact ⟨fe, bp HB.out⟩
 ·replace c4 := Bool.eq_false_iff.mpr c4; subst c4; rw [if_neg zft] at H; obtain rfl := Option.some.inj H; go_wp2; go_ret; exact ⟨fe, bp HB.out⟩
/-! ### laws_alive: function 12 -/
def laws_alive.f (k : Nat)  : Option (Bool) := (impl_KeyRank.f k (⟨#[97, 97]⟩ : ByteArray)).bind fun t121 => (if t121 = 1 then ((impl_KeyRank.f k (⟨#[]⟩ : ByteArray)).bind fun t122 => (some (t122 == (-1)))) else (some false))
theorem laws_alive.mono : ∀ k, LeO (laws_alive.f k ) (laws_alive.f (k + 1) ) := by
 intro  k; unfold laws_alive.f; repeat' with_reducible first | exact impl_KeyRank.mono .. | exact LeO.refl _ | exact LeO.none _ | refine LeO.ite ?_ ?_ | refine LeO.bind ?_ (fun _ => ?_)
set_option maxHeartbeats 8000000 in
set_option maxRecDepth 100000 in
theorem laws_alive.calls (k : Nat)  (r : Bool) (w : World) (h : laws_alive.f k  = some r) :
    Calls Tryd.prog 12 #[] w fun e w' => e = .returned (.bool r) ∧ Below w.heap.size w w' := by
 have HB := Aside0.mk (Below.refl w.heap.size w); unfold laws_alive.f at h; have H := h; clear h; obtain ⟨t121, A1, H⟩ := zbd H; (try dsimp only at H); by_cases c2 : t121 = 1
 ·rw [if_pos c2] at H; have c2b0 : (t121 == 1) = true := beq_iff_eq.mpr c2; have c2b1 : (t121 != 1) = false := bne_eq_false_iff_eq.mpr c2; clear c2; obtain ⟨t122, A3, H⟩ := zbd H; (try dsimp only at H); obtain rfl := Option.some.inj H; go_enter Tryd.func12, Tryd.ntmps12; (go_wp2_with (first | ((with_reducible refine gate_callee (f := 36) rfl ?_); refine goesL_ (some 1) rfl rfl Tryd.func36 (by kernel_rfl) rfl #[.string (⟨#[97, 97]⟩ : ByteArray)] rfl (by (try simp only [List.map_toArray, List.map_cons, List.map_nil]); first | done | rfl | (simp only [List.length_drop, List.length_take]; rfl)) ?_; (with_reducible refine (impl_KeyRank.calls k (⟨#[97, 97]⟩ : ByteArray) t121 _ A1.out).mono ?_); rintro e w4 ⟨rfl, hb⟩; refine ⟨_, rfl, ?_⟩; replace HB := an0 HB hb; (try clear hb); (try clear hgw)) | (go_at_call 36; (with_reducible refine (impl_KeyRank.calls k (⟨#[]⟩ : ByteArray) t122 _ A3.out).mono ?_); rintro e w5 ⟨rfl, hb⟩; replace HB := an0 HB hb; (try clear hb); (try clear hgw)))); go_ret; exact ⟨fe, bp HB.out⟩
 ·rw [if_neg c2] at H; have c2b0 : (t121 == 1) = false := beq_eq_false_iff_ne.mpr c2; have c2b1 : (t121 != 1) = true := bne_iff_ne.mpr c2; obtain rfl := Option.some.inj H; go_enter Tryd.func12, Tryd.ntmps12; (go_wp2_with (first | ((with_reducible refine gate_callee (f := 36) rfl ?_); refine goesL_ (some 1) rfl rfl Tryd.func36 (by kernel_rfl) rfl #[.string (⟨#[97, 97]⟩ : ByteArray)] rfl (by (try simp only [List.map_toArray, List.map_cons, List.map_nil]); first | done | rfl | (simp only [List.length_drop, List.length_take]; rfl)) ?_; (with_reducible refine (impl_KeyRank.calls k (⟨#[97, 97]⟩ : ByteArray) t121 _ A1.out).mono ?_); rintro e w6 ⟨rfl, hb⟩; refine ⟨_, rfl, ?_⟩; replace HB := an0 HB hb; (try clear hb); (try clear hb2); (try clear hk); (try clear hi); (try clear hgw)))); go_ret; exact ⟨fe, bp HB.out⟩
/-! ### strings_Split: function 37 -/
def strings_Split.f (a0 a1 : ByteArray) : Option (List ByteArray) := if a0.size < 4294967281 ∧ 1 ≤ a1.size then some (Lib.splitB a1 0 (Lib.countB a0 a1) a0) else none
theorem strings_Split.calls (a0 : ByteArray) (a1 : ByteArray) (r : List ByteArray) (w : World) (h : strings_Split.f a0 a1 = some r) (HTAB : Txts w := by first | exact HTAB | exact HTAB.below HB.out | exact HTAB.below (bp HB.out)) :
    Calls Tryd.prog 37 #[.string a0, .string a1] w fun e w' => ∃ v0_ : Value, e = .returned (v0_) ∧ Kd.R Kd.string 9 w' w.heap.size (fun _ => True) v0_ r ∧ Below w.heap.size w w' := by
  unfold strings_Split.f at h
  split at h
  · next hh =>
    obtain rfl := Option.some.inj h
    obtain ⟨m, hm⟩ := HTAB.2.1
    have hl := Lib.splitB_all a1 hh.2 0 _ a0 rfl
    have hc := Lib.countB_le a1 hh.2 a0.size a0 (Nat.le_refl _)
    refine (Tryd.strings_Split a0 a1 m w hh.1 hm hh.2).mono fun e w' ⟨he, hw⟩ => ⟨_, he, ?_, ?_⟩
    · rw [hw, ← hl]
      exact split_row w _ (by omega)
    · rw [hw]
      exact (Below.refl _ _).alloc (Nat.le_refl _) _
  · cases h

/-! ### strings_Cut: function 38 -/
def strings_Cut.f (a0 a1 : ByteArray) : Option (ByteArray × ByteArray × Bool) := if a0.size < 4294967281 then some (⟨(Lib.cut a0.data.toList a1.data.toList).1.toArray⟩, ⟨(Lib.cut a0.data.toList a1.data.toList).2.1.toArray⟩, (Lib.cut a0.data.toList a1.data.toList).2.2) else none
theorem strings_Cut.calls (a0 : ByteArray) (a1 : ByteArray) (r1 : ByteArray) (r2 : ByteArray) (r3 : Bool) (w : World) (h : strings_Cut.f a0 a1 = some (r1, r2, r3)) (HTAB : Txts w := by first | exact HTAB | exact HTAB.below HB.out | exact HTAB.below (bp HB.out)) :
    Calls Tryd.prog 38 #[.string a0, .string a1] w fun e w' => e = .returned (.tuple #[.string r1, .string r2, .bool r3]) ∧ Below w.heap.size w w' := by
  unfold strings_Cut.f at h
  split at h
  · next hh =>
    obtain ⟨rfl, rfl, rfl⟩ : _ ∧ _ ∧ _ := by simpa using h
    obtain ⟨m, hm⟩ := HTAB.2.1
    exact (Tryd.strings_Cut a0 a1 m w hh hm).mono fun e w' ⟨he, n, hw⟩ => ⟨he, hw ▸ ⟨rfl, rfl, rfl, Nat.le_refl _, fun _ _ => rfl⟩⟩
  · cases h

/-! ### impl_numberOf: function 39 -/
def numOr : Lib.NumEnd Int → Int
  | .ok v => v
  | _ => -2
def impl_numberOf.f (a0 : ByteArray) : Option (Int) := if a0.size ≤ 281474976710656 then some (numOr (Lib.atoiAll a0.data.toList)) else none
theorem impl_numberOf.calls (a0 : ByteArray) (r : Int) (w : World) (h : impl_numberOf.f a0 = some r) (HTAB : Txts w := by first | exact HTAB | exact HTAB.below HB.out | exact HTAB.below (bp HB.out)) :
    Calls Tryd.prog 39 #[.string a0] w fun e w' => e = .returned (.int .i64 r) ∧ Below w.heap.size w w' := by
  unfold impl_numberOf.f at h
  split at h
  · next hl =>
    obtain rfl := Option.some.inj h
    obtain ⟨_, _, ⟨tp, p, hp⟩, ⟨tq, q, hq⟩⟩ := HTAB
    cases hc : Lib.atoiAll a0.data.toList with
    | ok v =>
      go_enter Tryd.func39, Tryd.ntmps39
      go_wp2_with (go_at_call 66; refine (Tryd.strconv_Atoi_ok a0 (by omega) v hc _).mono ?_; rintro e w' ⟨rfl, hw⟩)
      go_ret
      refine ⟨rfl, ?_⟩
      rcases hw with rfl | ⟨t, rfl⟩
      · exact Below.refl _ _
      · exact Lib.bytesWorld_below _ _ _
    | «syntax» =>
      go_enter Tryd.func39, Tryd.ntmps39
      go_wp2_with (go_at_call 66; refine (Tryd.strconv_Atoi_syntax_var a0 hl hc tp p _ hp).mono ?_; rintro e W1 ⟨N, rfl, -, -, hb⟩)
      go_ret
      exact ⟨rfl, hb⟩
    | range =>
      go_enter Tryd.func39, Tryd.ntmps39
      go_wp2_with (go_at_call 66; refine (Tryd.strconv_Atoi_range_var a0 hl hc tq q _ hq).mono ?_; rintro e W1 ⟨N, rfl, -, -, hb⟩)
      go_ret
      exact ⟨rfl, hb⟩
  · cases h

end Go.Proofs.YtagknifdfpjlbaaDoor.PFnReadPairs
